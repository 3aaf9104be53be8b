/- Parts of this proof, one behind the other: FloW, FloX, FloNA, FloNB. -/
import Derived.Test.YtomfpjgcficlgaaGreatFn31
import Derived.Deep.DeepCutAuto
import Derived.Deep.QuietTactic
import Derived.BigQuiet
import Derived.Outline
import Derived.Test.YtomfpjgcficlgaaGreatFn14
import Derived.Test.YtomfpjgcficlgaaGreatFn17
import Derived.Test.YtomfpjgcficlgaaGreatFn29
set_option maxRecDepth 1000000
set_option maxHeartbeats 40000000
namespace Go.Proofs.YtomfpjgcficlgaaGreat
open Go.RowKit Go.Afx
theorem exprOne (v1 v2 v3 v4 v5:Value) (A:Option Addr) (c:Nat) (w:World) :
  Calls Tryz.prog 53 #[.agg #[v1,v2,v3,v4,v5,.slice A 0 c]] w fun e w'=>e=.returned (.tuple #[.int .i64 1,.int .i64 1])∧Below w.heap.size w w':=by
 obtain⟨w2,Hw2⟩:∃ w2,Hid (w2=w.alloc (.cells #[v1,v2,v3,v4,v5,.slice A 0 c] 58)):=⟨_,rfl⟩
 have hb2:Below w.heap.size w w2:=by rw[Hw2.out];exact(Below.refl _ _).alloc (Nat.le_refl _) _
 have hx:w2.cell? ⟨w.heap.size,5,none⟩=some (.slice A 0 c):=by
  rw[Hw2.out]
  have h:=(IsBlk.laid w 58 (#[v1,v2,v3,v4,v5,.slice A 0 c])).cell 5
  exact h.trans rfl
 go_enter Tryz.func53,Tryz.ntmps53
 go_upto_region 1 with (fail)
 rw[← Hw2.out]
 go_wp2
 go_loopw [4,5,6] (fun u4 u5 i wr=>u4=.int .i64 1∧u5=.int .i64 1∧i=.int .i64 0∧w2=wr) (fun _ _ _ _=>0)
 case atStart=>exact⟨rfl,rfl,rfl,rfl⟩
 case round =>
  obtain⟨rfl,rfl,rfl,rfl⟩:=hrel
  go_wp2
  go_ret2
  exact⟨rfl,hb2⟩
theorem bodyNil (A:Option Addr) (c:Nat) (w:World) :
  Calls Tryz.prog 32 #[.slice A 0 c] w fun e w'=>e=.returned (.tuple #[.int .i64 0,.int .i64 0])∧w=w':=by
 go_enter Tryz.func32,Tryz.ntmps32
 go_wp2
 go_loopw [4,5,6] (fun u4 u5 i wr=>u4=.int .i64 0∧u5=.int .i64 0∧i=.int .i64 0∧w=wr) (fun _ _ _ _=>0)
 case atStart=>exact⟨rfl,rfl,rfl,rfl⟩
 case round =>
  obtain⟨rfl,rfl,rfl,rfl⟩:=hrel
  go_wp2
  go_ret2
  exact⟨rfl,rfl⟩
def bodD (k:Nat):Int:=if k=0 then 0 else 2
def BodyIn (w:World) (m:Nat) (u4 u5 i:Value) (wr:World):Prop :=
 ∃ k:Nat,k≤m∧i=.int .i64 k∧u4=.int .i64 (2*(k:Int))∧(∃ q:Int,u5=.int .i64 q∧q=bodD k)∧Below w.heap.size w wr
theorem bodD_cases (k:Nat):bodD k=0∨bodD k=2:=by unfold bodD;split<;>simp
theorem bodD_succ (k:Nat):bodD (k+1)=2:=by unfold bodD;rw[if_neg (by omega)]
theorem max4 (q:Int) (hq:q=0∨q=2) (W:World):(Builtin.max_ #[3,3,3,3] 3 #[.int .i64 q,.int .i64 2,.int .i64 1,.int .i64 1]).run Tryz.prog W=.ok (.int .i64 2) W:=by
 rcases hq with rfl|rfl<;>kernel_rfl
theorem bodyEm_any (F:Nat→Prop) (A2:Option Addr) (m c2:Nat) (ems:List ByteArray) (w:World) (h:StsAt F 2 w A2 m c2 (ems.map emSt)) (hm8:m≤8) :
  Calls Tryz.prog 32 #[.slice A2 m c2] w fun e w'=>e=.returned (.tuple #[.int .i64 (2*(m:Int)),.int .i64 (bodD m)])∧Below w.heap.size w w':=by
 have Hx:=Lhd (fun W (hW:Below w.heap.size w W)=>StsAt.below h hW)
 clear h
 go_enter Tryz.func32,Tryz.ntmps32
 go_wp2
 go_loopw [4,5,6] (fun u4 u5 i wr=>BodyIn w m u4 u5 i wr) (fun _ _ i _=>m-(intOf i).toNat)
 case atStart=>exact⟨0,Nat.zero_le _,rfl,rfl,⟨0,rfl,rfl⟩,Below.refl _ _⟩
 case round =>
  generalize wr=w1 at *
  obtain⟨k,hk,rfl,rfl,⟨q,rfl,hq⟩,hB⟩:=hrel
  have HB:=Lhd hB
  have Hq:=Lhd hq
  clear hB hq
  by_cases hlt:k<m
  rotate_left
  ·obtain rfl:k=m:=by omega
   go_wp2
   go_ret2
   exact⟨by rw[← Hq.out];rfl,HB.out⟩
  obtain⟨b,o,s,Ac2,cc2,Ae2,ce2,Ab2,cb2,Al2,cl2,rfl,hbl,hs,oks,hc0,hc1,hc2,hc3,hc4,hc5,hc6,hc7,hE⟩:=emGet (Hx.out w1 HB.out) hlt
  have HE:=Lhd hE
  clear hE
  go_wp2
  go_loopw [4,7,8] (fun u4 most i wr=>∃ j:Nat,j≤1∧i=.int .i64 j∧most=.int .i64 j∧u4=.int .i64 (2*(k:Int)+j)∧Below w1.heap.size w1 wr) (fun _ _ i _=>1-(intOf i).toNat)
  case atStart=>exact⟨0,by omega,rfl,rfl,by simp,Below.refl _ _⟩
  case round =>
   generalize wr=w2 at *
   obtain⟨j,hj,rfl,rfl,rfl,hb2⟩:=hrel
   have HB2:=Lhd hb2
   have hc5':w2.cell? ⟨b,o+k*8+5,none⟩=some (.slice Ae2 1 ce2):=by rw[hb2.cell hbl];exact hc5
   have hc6':w2.cell? ⟨b,o+k*8+6,none⟩=some (.slice Ab2 0 cb2):=by rw[hb2.cell hbl];exact hc6
   have hc7':w2.cell? ⟨b,o+k*8+7,none⟩=some (.slice Al2 0 cl2):=by rw[hb2.cell hbl];exact hc7
   by_cases hj0:j=0
   ·subst hj0
    obtain⟨b3,o3,A3,c3,rfl,hb3l,e0,e1,e2,e3,e4,e5⟩:=oneGet (HE.out.below hb2)
    clear hb2
    go_wp2_with (go_at_call 53;refine(exprOne _ _ _ _ _ _ _ _).mono ?_;rintro y w3 ⟨rfl,hb3⟩)
    go_roundw
    case rel=>exact⟨1,by omega,by go_num,by go_num,by go_num,HB2.out.trans (hb3.mono HB2.out.size)⟩
    case measure=>simp[intOf]
   ·obtain rfl:j=1:=by omega
    clear hb2
    have hd:=bodD_cases k
    rw[← Hq.out] at hd
    clear Hq
    have hex:∃ q:Int,Value.int .i64 2=.int .i64 q∧q=bodD (k+1):=⟨2,rfl,(bodD_succ k).symm⟩
    have Hex:=Lhd hex
    clear hex
    rcases hd with rfl|rfl
    all_goals
     go_wp2_with (go_at_call 32;refine(bodyNil _ _ _).mono ?_;rintro y w3 ⟨rfl,rfl⟩)
     rw[max4 _ (by first|exact Or.inl rfl|exact Or.inr rfl)]
     go_wp2
     go_roundw
     case rel=>exact⟨k+1,by omega,by go_num,by go_num,Hex.out,HB.out.trans (HB2.out.mono HB.out.size)⟩
     case measure=>simp[intOf];omega
theorem em_size (s:ByteArray):sizeS 2 0 (emSt s)=(2,2):=by
 have h:sizeS 2 0 (emSt s)=overZ (addZ (addZ (allZ 1 (sizeE 1 1) (0,0) [oneE]) (0,0)) (0,0)):=rfl
 rw[h];decide +kernel
theorem ems_small:∀ (l:List ByteArray) (a b:Int),0≤a→a+2*l.length≤100→0≤b→b≤2→smallZ (allZ 0 (sizeS 2 0) (a,b) (l.map emSt))=true:=by
 intro l
 induction l with
 | nil=>intro a b h1 h2 h3 h4;simp[allZ,smallZ] at *;omega
 | cons s r ih =>
  intro a b h1 h2 h3 h4
  rw[List.length_cons] at h2
  have hf:fullZ (a,b)=false:=by simp[fullZ];omega
  rw[List.map_cons,allZ,hf,em_size]
  have ha:addZ (a,b) (2,2)=(a+2,2):=by
   unfold addZ
   simp only[Prod.mk.injEq]
   omega
  rw[ha]
  exact ih (a+2) 2 (by omega) (by push_cast at h2;omega) (by omega) (by omega)
theorem right_em {x:Nd} (hx:x.ems.length≤8):rightB 2 (prOf x)=(headsB (prOf x)&&(x.ems.map emSt).all (builtS 2)):=by
 have h:rightB 2 (prOf x)=(headsB (prOf x)&&smallZ (allZ 0 (sizeS 2 0) (0,0) (x.ems.map emSt))&&(x.ems.map emSt).all (builtS 2)):=rfl
 rw[h,ems_small _ 0 0 (by omega) (by omega) (by omega) (by omega),Bool.and_true]
theorem boxPr {w:World} {g:Nat} {T:TypeId} {v0 v1 v2 v3 v4 v5:Value} (h:IsBlk w g T #[v0,v1,v2,v3,v4,v5]) :
  w.cell? ⟨g,0,none⟩=some v0∧w.cell? ⟨g,1,none⟩=some v1∧w.cell? ⟨g,2,none⟩=some v2∧w.cell? ⟨g,3,none⟩=some v3∧w.cell? ⟨g,4,none⟩=some v4∧w.cell? ⟨g,5,none⟩=some v5∧g<w.heap.size :=
 ⟨h.cell 0,h.cell 1,h.cell 2,h.cell 3,h.cell 4,h.cell 5,h.lt⟩
theorem rightF_any (HRB:∀ F:Nat→Prop,RBuiltS F 2) (F:Nat→Prop) (x:Nd) (Ap Ab:Option Addr) (np cp nb cb:Nat) (w:World) (okn:okS x.name) (oks:okS x.src) (hp:LsAt F w 2 CoRow Ap np cp (prOf x).params) (hb:StsAt F 2 w Ab nb cb (x.ems.map emSt)) (h8:x.ems.length≤8) :
  Calls Tryz.prog 20 #[.agg #[.string x.name,.string x.src,.string ⟨#[]⟩,.int .i64 (if x.odd then 0 else 1),.slice Ap np cp,.slice Ab nb cb]] w fun e w'=>e=.returned (.bool (rightB 2 (prOf x)))∧Below w.heap.size w w':=by
 have hnb:nb≤8:=by have:=LsAt.len hb;rw[List.length_map] at this;omega
 obtain⟨fu,Hfu⟩:∃ fu:Int,Hid ((if x.odd then 0 else 1)=fu):=⟨_,rfl⟩
 rw[Hfu.out]
 obtain⟨w2,Hw2⟩:∃ w2,Hid (w2=w.alloc (.cells #[.string x.name,.string x.src,.string ⟨#[]⟩,.int .i64 fu,.slice Ap np cp,.slice Ab nb cb] 46)):=⟨_,rfl⟩
 have hb2:Below w.heap.size w w2:=by rw[Hw2.out];exact(Below.refl _ _).alloc (Nat.le_refl _) _
 have hx2:IsBlk w2 w.heap.size 46 #[.string x.name,.string x.src,.string ⟨#[]⟩,.int .i64 fu,.slice Ap np cp,.slice Ab nb cb]:=by rw[Hw2.out];exact IsBlk.laid _ _ _
 have HX:=Lhd (fun W (hW:Below w2.heap.size w2 W)=>boxPr (hx2.as_was (hW.block _ hx2.lt)))
 have HP:=Lhd (fun W (hW:Below w2.heap.size w2 W)=>hp.below (hb2.trans (hW.mono hb2.size)))
 have HS:=Lhd (fun W (hW:Below w2.heap.size w2 W)=>StsAt.below hb (hb2.trans (hW.mono hb2.size)))
 have HB2:=Lhd hb2
 have hfin:rightB 2 (prOf x)=(refH x.name x.src ⟨#[]⟩ fu []&&(x.ems.map emSt).all (builtS 2)):=by
  rw[right_em h8,refH_heads,← Hfu.out];rfl
 have Hfin:=Lhd hfin
 obtain⟨i0,i1,i2,i3,i4,i5,il⟩:=boxPr hx2
 clear hx2 hb2 hp hb hfin
 obtain⟨qh,Hqh⟩:∃ q,Hid (refH x.name x.src ⟨#[]⟩ fu []=q):=⟨_,rfl⟩
 have hm:decide (2*(nb:Int)≤300)=true:=by simp;omega
 have hd:decide (bodD nb≤12)=true:=by rcases bodD_cases nb with h|h<;>rw[h]<;>rfl
 go_enter Tryz.func20,Tryz.ntmps20
 go_upto_region 1 with (fail)
 rw[← Hw2.out]
 have HB:=Lhd (bodyEm_any F Ab nb cb x.ems w2 (HS.out w2 (Below.refl _ _)) hnb)
 cases qh
 ·go_wp2_with (first
   | (go_at_call 32;refine HB.out.mono ?_;rintro y w3 ⟨rfl,hb3⟩;obtain⟨j0,j1,j2,j3,j4,j5,jl⟩:=HX.out w3 hb3;have HH:=Lhd (rheads_any F x.name x.src ⟨#[]⟩ fu Ap Ab np cp nb cb [] w3 (HP.out w3 hb3) okn oks))
   | (go_at_call 33;refine HH.out.mono ?_;rintro y w4 ⟨rfl,hb4⟩;rw[Hqh.out]))
  go_ret
  exact⟨ret_bool (by rw[Hfin.out,Hqh.out];rfl),HB2.out.trans ((hb3.trans (hb4.mono hb3.size)).mono HB2.out.size)⟩
 ·go_wp2_with (first
   | (go_at_call 32;refine HB.out.mono ?_;rintro y w3 ⟨rfl,hb3⟩;obtain⟨j0,j1,j2,j3,j4,j5,jl⟩:=HX.out w3 hb3;have HH:=Lhd (rheads_any F x.name x.src ⟨#[]⟩ fu Ap Ab np cp nb cb [] w3 (HP.out w3 hb3) okn oks))
   | (go_at_call 33;refine HH.out.mono ?_;rintro y w4 ⟨rfl,hb4⟩;rw[Hqh.out];have hb34:=hb3.trans (hb4.mono hb3.size);obtain⟨k0,k1,k2,k3,k4,k5,kl⟩:=HX.out w4 hb34;have HK:=Lhd (rblocks_any F 2 (HRB F) Ab nb cb (x.ems.map emSt) w4 (HS.out w4 hb34)))
   | (go_at_call 34;refine HK.out.mono ?_;rintro y w5 ⟨rfl,hb5⟩))
  go_ret
  exact⟨ret_bool (by rw[Hfin.out,Hqh.out,Bool.true_and,List.all_map]),HB2.out.trans ((hb34.trans (hb5.mono hb34.size)).mono HB2.out.size)⟩
theorem Rises.ext {l:List ByteArray}:∀ {m:List ByteArray},Rises l→Rises m→(∀ x,x∈l ↔ x∈m)→l=m:=by
 induction l with
 | nil =>
  intro m _ _ h
  cases m with
  | nil=>rfl
  | cons b t=>exact absurd ((h b).2 List.mem_cons_self) (by simp)
 | cons a r ih =>
  intro m h1 h2 h
  cases m with
  | nil=>exact absurd ((h a).1 List.mem_cons_self) (by simp)
  | cons b t =>
   obtain⟨ha,hr⟩:=List.pairwise_cons.1 h1
   obtain⟨hb,ht⟩:=List.pairwise_cons.1 h2
   have hab:a=b:=by
    rcases List.mem_cons.1 ((h a).1 List.mem_cons_self) with e|e
    ·exact e
    rcases List.mem_cons.1 ((h b).2 List.mem_cons_self) with e'|e'
    ·exact e'.symm
    exact absurd (List.lt_trans (hb a e) (ha b e')) (List.lt_irrefl _)
   subst hab
   congr 1
   refine ih hr ht fun x=>⟨fun hx=>?_,fun hx=>?_⟩
   ·rcases List.mem_cons.1 ((h x).1 (List.mem_cons_of_mem _ hx)) with e|e
    ·subst e;exact absurd (ha _ hx) (List.lt_irrefl _)
    ·exact e
   ·rcases List.mem_cons.1 ((h x).2 (List.mem_cons_of_mem _ hx)) with e|e
    ·subst e;exact absurd (hb _ hx) (List.lt_irrefl _)
    ·exact e
theorem rises_nil:Rises []:=List.Pairwise.nil
theorem puts_rises (L:List ByteArray):Rises (putsB [] L):=Rises.puts L rises_nil
theorem mem_puts {L:List ByteArray} {x:ByteArray}:x∈putsB [] L ↔ x∈L:=by rw[mem_putsB];simp
theorem sortN_rises {l:List ByteArray} (h:l.Nodup):Rises (sortN l):=by
 have tr:∀ a b c:List UInt8,leB a b=true→leB b c=true→leB a c=true:=fun a b c h1 h2=>by simp only[leB,decide_eq_true_eq] at *;exact List.le_trans h1 h2
 have tt:∀ a b:List UInt8,(leB a b||leB b a)=true:=fun a b=>by simp only[leB,Bool.or_eq_true,decide_eq_true_eq];exact List.le_total a b
 have h1:=List.pairwise_mergeSort tr tt (l.map fun s=>s.data.toList)
 have h2:(sortN l).Nodup:=(sortN_perm l).nodup_iff.2 h
 have h3:(sortN l).Pairwise fun x y=>x.data.toList≤y.data.toList:=by
  unfold sortN
  rw[List.pairwise_map]
  refine h1.imp fun {a b} hab=>?_
  rw[of_mkB,of_mkB]
  simpa [leB] using hab
 unfold Rises
 refine(List.Pairwise.and h3 h2).imp fun {a b} hab=>?_
 rcases List.le_iff_lt_or_eq.1 hab.1 with h|h
 ·exact h
 ·exact absurd (data_inj h) hab.2
theorem sortN_puts {l:List ByteArray} (h:l.Nodup):sortN l=putsB [] l:=(sortN_rises h).ext (puts_rises l) fun x=>by rw[sortN_mem,mem_puts]
theorem compact_inv (d:Array (List UInt8)) (hd:∀ i j,i≤j→j<d.size→d[i]!≤d[j]!):∀ m,m≤d.size→(Lib.compactUpTo d m).Pairwise (· < ·)∧(∀ x∈Lib.compactUpTo d m,0<m∧x≤d[m-1]!)∧∀ x,x∈Lib.compactUpTo d m ↔ ∃ j,j<m∧d[j]! = x:=by
 intro m
 induction m with
 | zero=>intro _;refine⟨by simp[Lib.compactUpTo],by simp[Lib.compactUpTo],by simp[Lib.compactUpTo]⟩
 | succ m ih =>
  intro hm
  obtain⟨h1,h2,h3⟩:=ih (by omega)
  rw[Lib.compactUpTo_succ]
  by_cases hk:Lib.keeps d m=true
  ·rw[if_pos hk]
   have hlt:∀ x∈Lib.compactUpTo d m,x<d[m]!:=by
    intro x hx
    obtain⟨hm0,hx2⟩:=h2 x hx
    have hne:d[m]!≠d[m-1]!:=by
     have:=of_decide_eq_true (show decide (m=0∨d[m]!≠d[m-1]!)=true from hk)
     rcases this with h|h
     ·omega
     ·exact h
    have hle:=hd (m-1) m (by omega) (by omega)
    rcases List.le_iff_lt_or_eq.1 hle with h|h
    ·rcases List.le_iff_lt_or_eq.1 hx2 with h'|h'
     ·exact List.lt_trans h' h
     ·rw[h'];exact h
    ·exact absurd h.symm hne
   refine⟨?_,?_,?_⟩
   ·rw[List.pairwise_append]
    exact⟨h1,by simp,fun a ha b hb=>by simp only[List.mem_singleton] at hb;subst hb;exact hlt a ha⟩
   ·intro x hx
    refine⟨by omega,?_⟩
    rw[Nat.add_sub_cancel]
    rcases List.mem_append.1 hx with h|h
    ·exact List.le_of_lt (hlt x h)
    ·simp only[List.mem_singleton] at h;subst h;exact List.le_refl _
   ·intro x
    rw[List.mem_append,h3,List.mem_singleton]
    constructor
    ·rintro(⟨j,hj,rfl⟩|rfl)
     ·exact⟨j,by omega,rfl⟩
     ·exact⟨m,by omega,rfl⟩
    ·rintro⟨j,hj,rfl⟩
     by_cases h:j=m
     ·subst h;exact .inr rfl
     ·exact .inl ⟨j,by omega,rfl⟩
  ·rw[if_neg hk,List.append_nil]
   have hk':¬ (m=0∨d[m]!≠d[m-1]!):=fun h=>hk (decide_eq_true h)
   have hm0:m≠0:=fun h=>hk' (.inl h)
   have he:d[m]! = d[m-1]!:=Classical.byContradiction fun h=>hk' (.inr h)
   refine⟨h1,?_,?_⟩
   ·intro x hx
    refine⟨by omega,?_⟩
    rw[Nat.add_sub_cancel,he]
    exact(h2 x hx).2
   ·intro x
    rw[h3]
    constructor
    ·rintro⟨j,hj,rfl⟩;exact⟨j,by omega,rfl⟩
    ·rintro⟨j,hj,rfl⟩
     by_cases h:j=m
     ·subst h;exact⟨j-1,by omega,he.symm⟩
     ·exact⟨j,by omega,rfl⟩
theorem once_puts (xs:List ByteArray):onceN xs=putsB [] xs:=by
 have e:sortedB xs=(xs.map fun s=>s.data.toList).mergeSort leB:=rfl
 have tr:∀ a b c:List UInt8,leB a b=true→leB b c=true→leB a c=true:=fun a b c h1 h2=>by simp only[leB,decide_eq_true_eq] at *;exact List.le_trans h1 h2
 have tt:∀ a b:List UInt8,(leB a b||leB b a)=true:=fun a b=>by simp only[leB,Bool.or_eq_true,decide_eq_true_eq];exact List.le_total a b
 have h1:=List.pairwise_mergeSort tr tt (xs.map fun s=>s.data.toList)
 have h2:=List.mergeSort_perm (xs.map fun s=>s.data.toList) leB
 unfold onceN
 rw[e]
 generalize (xs.map fun s=>s.data.toList).mergeSort leB=zs at h1 h2
 have hd:∀ i j,i≤j→j<zs.toArray.size→zs.toArray[i]!≤zs.toArray[j]!:=by
  intro i j hij hj
  have hj':j<zs.length:=by simpa using hj
  rcases Nat.lt_or_eq_of_le hij with h|h
  ·have:=List.pairwise_iff_getElem.1 h1 i j (by omega) hj' h
   rw[getElem!_pos zs.toArray i (by simp;omega),getElem!_pos zs.toArray j hj]
   simpa [leB] using this
  ·subst h;exact List.le_refl _
 obtain⟨k1,_,k3⟩:=compact_inv zs.toArray hd zs.length (by simp)
 have hc:Lib.compact zs=Lib.compactUpTo zs.toArray zs.length:=rfl
 rw[hc]
 refine Rises.ext ?_ (puts_rises _) fun x=>?_
 ·unfold Rises
  rw[List.pairwise_map]
  exact k1.imp fun {a b} hab=>by rw[of_mkB,of_mkB];exact hab
 ·rw[mem_puts,List.mem_map]
  constructor
  ·rintro⟨a,ha,rfl⟩
   obtain⟨j,hj,rfl⟩:=(k3 a).1 ha
   rw[getElem!_pos zs.toArray j (by simpa using hj)]
   have hm:zs[j]∈xs.map fun s=>s.data.toList:=h2.mem_iff.1 (List.getElem_mem hj)
   obtain⟨s,hs,he⟩:=List.mem_map.1 hm
   simp only[List.getElem_toArray]
   rw[← he,mkB_of];exact hs
  ·intro hx
   refine⟨x.data.toList,(k3 _).2 ?_,mkB_of x⟩
   have hm:x.data.toList∈zs:=h2.mem_iff.2 (List.mem_map.2 ⟨x,hx,rfl⟩)
   obtain⟨j,hj⟩:=List.mem_iff_getElem?.1 hm
   have hl:=(List.getElem?_eq_some_iff.1 hj)
   exact⟨j,hl.1,by rw[getElem!_pos zs.toArray j (by simpa using hl.1)];simpa using hl.2⟩
/- the document's lists -/
def consR (M:List Stp) (S:List ByteArray):List ByteArray:=putsB [] ((M.filter (consB S)).map Stp.name)
def emitR (M:List Stp) (S:List ByteArray):List ByteArray:=putsB [] (M.flatMap fun s=>(s.ems.filter fun x=>decide (x∈S)).map fun _=>s.name)
variable {M:List Stp}
theorem filter_names (hn:(M.map Stp.name).Nodup) (p:Stp→Bool):((M.filter p).map Stp.name).Nodup:=((List.filter_sublist).map Stp.name).nodup hn
theorem consR_eq (hn:(M.map Stp.name).Nodup) (S:List ByteArray):consR M S=consN M S:=by
 unfold consR consN namesN
 rw[sortN_puts (filter_names hn _)]
theorem emitR_eq (hn:(M.map Stp.name).Nodup) (S:List ByteArray):emitR M S=emitN M S:=by
 unfold emitR emitN namesN
 rw[sortN_puts (filter_names hn _)]
 refine(puts_rises _).ext (puts_rises _) fun x=>?_
 rw[mem_puts,mem_puts]
 simp only[List.mem_flatMap,List.mem_map,List.mem_filter,emitB,List.any_eq_true]
 constructor
 ·rintro⟨s,hs,y,⟨hy,hyS⟩,rfl⟩
  exact⟨s,⟨hs,y,hy,hyS⟩,rfl⟩
 ·rintro⟨s,⟨hs,y,hy,hyS⟩,rfl⟩
  exact⟨s,hs,y,⟨hy,hyS⟩,rfl⟩
/- what is reached, by going on -/
def Cl (M:List Stp) (out:List ByteArray):Prop:=∀ x∈out,∀ y∈consN M (stp M x).ems,y∈out
structure RchI (M:List Stp) (S:List ByteArray) (k:Nat) (out:List ByteArray):Prop where
 rises:Rises out
 base:∀ x∈consN M S,x∈out
 sub:∀ x∈out,Rch M (consN M S) x
 far:Cl M out∨k≤out.length
theorem RchI.start (hn:(M.map Stp.name).Nodup) (S:List ByteArray):RchI M S 0 (consN M S) :=
 ⟨by unfold consN namesN;exact sortN_rises (filter_names hn _),fun _ h=>h,fun _ h=>.base h,.inr (Nat.zero_le _)⟩
theorem sub_lenG {α:Type} [DecidableEq α] {l:List α}:∀ {m:List α},l.Nodup→(∀ x∈l,x∈m)→l.length≤m.length:=by
 induction l with
 | nil=>intro m _ _;exact Nat.zero_le _
 | cons a r ih =>
  intro m hl h
  obtain⟨ha,hr⟩:=List.nodup_cons.1 hl
  have hm:=h a List.mem_cons_self
  have h1:=ih (m:=m.erase a) hr fun x hx=>(List.mem_erase_of_ne (fun e=>ha (by rw[← e];exact hx))).2 (h x (List.mem_cons_of_mem _ hx))
  have h2:=List.length_erase_of_mem hm
  have h3:=List.length_pos_of_mem hm
  rw[List.length_cons]
  omega
theorem sub_len {l m:List ByteArray} (hl:l.Nodup) (h:∀ x∈l,x∈m):l.length≤m.length:=sub_lenG hl h
theorem sub_all {l m:List ByteArray} (hl:l.Nodup) (h:∀ x∈l,x∈m) (hle:m.length≤l.length) (y:ByteArray) (hy:y∈m):y∈l:=Classical.byContradiction fun hn=>by
 have:=sub_len (l:=y::l) (m:=m) (List.nodup_cons.2 ⟨hn,hl⟩) fun x hx=>by
  rcases List.mem_cons.1 hx with rfl|hx
  ·exact hy
  ·exact h x hx
 rw[List.length_cons] at this
 omega
theorem rch_len {S out:List ByteArray} (hr:Rises out) (hs:∀ x∈out,Rch M (consN M S) x):out.length≤M.length:=by
 have:=sub_len hr.nodup (m:=M.map Stp.name) fun x hx=>(hs x hx).names fun y hy=>namesN_sub hy
 rwa [List.length_map] at this
theorem RchI.done {S out:List ByteArray} (h:RchI M S (M.length+1) out) (x:ByteArray):x∈out ↔ Rch M (consN M S) x:=by
 have hc:Cl M out:=by
  rcases h.far with h1|h1
  ·exact h1
  ·have:=rch_len h.rises h.sub
   omega
 refine⟨h.sub x,fun hx=>?_⟩
 induction hx with
 | base hb=>exact h.base _ hb
 | step _ hy ih=>exact hc _ ih _ hy
structure RchJ (M:List Stp) (S out0 out:List ByteArray) (i:Nat):Prop where
 rises:Rises out
 base:∀ x∈consN M S,x∈out
 sub:∀ x∈out,Rch M (consN M S) x
 grow:out0.length≤out.length
 cl:Cl M out0→out=out0
 keep:out.length=out0.length→out=out0∧∀ j x,j<i→out0[j]?=some x→∀ y∈consN M (stp M x).ems,y∈out0
theorem RchI.begin {S out:List ByteArray} {k:Nat} (h:RchI M S k out):RchJ M S out out 0 :=
 ⟨h.rises,h.base,h.sub,Nat.le_refl _,fun _=>rfl,fun _=>⟨rfl,fun j x hj=>by omega⟩⟩
theorem puts_same {l L:List ByteArray} (hl:Rises l) (h:∀ x∈L,x∈l):putsB l L=l:=(Rises.puts L hl).ext hl fun x=>by
 rw[mem_putsB]
 exact⟨fun hx=>hx.elim (h x) id,.inr⟩
theorem RchJ.next {S out0 out:List ByteArray} {i:Nat} {x:ByteArray} (h:RchJ M S out0 out i) (hx:out[i]?=some x):RchJ M S out0 (putsB out (consN M (stp M x).ems)) (i+1):=by
 have hxm:=List.mem_of_getElem? hx
 have hr:=Rises.puts (consN M (stp M x).ems) h.rises
 have hlen:out.length≤(putsB out (consN M (stp M x).ems)).length:=sub_len h.rises.nodup fun y hy=>(mem_putsB _ _ _).2 (.inr hy)
 refine⟨hr,fun y hy=>(mem_putsB _ _ _).2 (.inr (h.base y hy)),fun y hy=>?_,Nat.le_trans h.grow hlen,fun hc=>?_,fun he=>?_⟩
 ·rcases (mem_putsB _ _ _).1 hy with h'|h'
  ·exact .step (h.sub x hxm) h'
  ·exact h.sub y h'
 ·have e:=h.cl hc
  rw[e] at hxm ⊢
  exact puts_same (e▸h.rises) (hc x hxm)
 ·have hg:=h.grow
  obtain⟨e,hk⟩:=h.keep (by omega)
  subst e
  have hall:∀ y∈consN M (stp M x).ems,y∈out:=by
   intro y hy
   exact sub_all h.rises.nodup (fun z hz=>(mem_putsB _ _ _).2 (.inr hz)) (by omega) y ((mem_putsB _ _ _).2 (.inl hy))
  refine⟨puts_same h.rises hall,fun j z hj hz=>?_⟩
  by_cases hji:j=i
  ·subst hji
   rw[hx] at hz
   injection hz with hz
   subst hz
   exact hall
  ·exact hk j z (by omega) hz
theorem RchJ.fin {S out0 out:List ByteArray} {i k:Nat} (h0:RchI M S k out0) (h:RchJ M S out0 out i) (hi:out.length≤i):RchI M S (k+1) out:=by
 refine⟨h.rises,h.base,h.sub,?_⟩
 rcases h0.far with hc|hk
 ·exact .inl (by rw[h.cl hc];exact hc)
 by_cases he:out.length=out0.length
 ·obtain⟨e,ha⟩:=h.keep he
  subst e
  refine .inl fun x hx=>?_
  obtain⟨j,hj⟩:=List.mem_iff_getElem?.1 hx
  have:=(List.getElem?_eq_some_iff.1 hj).1
  exact ha j x (by omega) hj
 ·have:=h.grow
  exact .inr (by omega)
def StpRow (F:Nat→Prop) (w:World) (r:List Value) (s:Stp):Prop:=okS s.name∧okS s.src∧∃ A n c,r=[.string s.name,.string s.src,.slice A n c]∧LsAt F w 1 SRow A n c s.ems
def StpsAt (F:Nat→Prop) (w:World) (A:Option Addr) (n c:Nat) (M:List Stp):Prop:=LsAt F w 3 (StpRow F w) A n c M
theorem StpRow.conv {F F':Nat→Prop} {w w':World} {r:List Value} {s:Stp} (hF:∀ k,F k→F' k) (hk:Kept F w w') (h:StpRow F w r s):StpRow F' w' r s:=by
 obtain⟨h1,h2,A,n,c,hr,hl⟩:=h
 exact⟨h1,h2,A,n,c,hr,hl.conv hk (fun _ _ _ h=>hF _ h) fun _ _ _ h=>h⟩
theorem StpsAt.kept {F:Nat→Prop} {w w':World} {A:Option Addr} {n c:Nat} {M:List Stp} (h:StpsAt F w A n c M) (hk:Kept F w w'):StpsAt F w' A n c M :=
 LsAt.conv h hk (fun _ _ _ h=>h) fun _ _ _ h=>h.conv (fun _ h=>h) hk
theorem StpsAt.below {F:Nat→Prop} {w w':World} {A:Option Addr} {n c:Nat} {M:List Stp} (h:StpsAt F w A n c M) (hb:Below w.heap.size w w'):StpsAt F w' A n c M:=h.kept (Kept.of_below hb)
theorem StpsAt.get {F:Nat→Prop} {w:World} {A:Option Addr} {n c:Nat} {M:List Stp} (h:StpsAt F w A n c M) {k:Nat} (hk:k<n) :
  ∃ b o s A2 n2 c2,A=some ⟨b,o,none⟩∧b<w.heap.size∧M[k]?=some s∧okS s.name∧okS s.src∧w.cell? ⟨b,o+k*3,none⟩=some (.string s.name)∧w.cell? ⟨b,o+k*3+1,none⟩=some (.string s.src)∧w.cell? ⟨b,o+k*3+2,none⟩=some (.slice A2 n2 c2)∧LsAt F w 1 SRow A2 n2 c2 s.ems:=by
 obtain⟨b,o,r,s,hA,hb,_,hs,hl,⟨h1,h2,A2,n2,c2,rfl,h3⟩,hc⟩:=LsAt.get h hk
 exact⟨b,o,s,A2,n2,c2,hA,hb,hs,h1,h2,hc 0 _ rfl,hc 1 _ rfl,hc 2 _ rfl,h3⟩
theorem ls_names {F:Nat→Prop} {w:World} {A:Option Addr} {n c:Nat} {l:List ByteArray} (h:NamesAt w A n c l) (hok:∀ s∈l,okS s) (hF:∀ q,A.map (·.block)=some q→F q):LsAt F w 1 SRow A n c l :=
 ⟨l.map srow,h,fun a ha _=>hF _ (by rw[ha];rfl),by simp,fun k r x hr hx=>by
  rw[List.getElem?_map,hx] at hr
  injection hr with hr
  subst hr
  exact⟨rfl,rfl,hok x (List.mem_of_getElem? hx)⟩⟩
theorem names_ls {F:Nat→Prop} {w:World} {A:Option Addr} {n c:Nat} {l:List ByteArray} (h:LsAt F w 1 SRow A n c l):NamesAt w A n c l:=by
 obtain⟨rows,hr,_,hl,hp⟩:=h
 have e:rows=l.map srow:=by
  refine List.ext_getElem (by simp[hl]) fun k h1 h2=>?_
  have hk:k<l.length:=by simpa using h2
  obtain⟨_,hr1,_⟩:=hp k rows[k] l[k] (List.getElem?_eq_getElem h1) (List.getElem?_eq_getElem hk)
  rw[List.getElem_map]
  exact hr1
 unfold NamesAt
 rw[← e]
 exact hr
theorem inR_any (A:Option Addr) (n c:Nat) (l:List ByteArray) (x:ByteArray) (w:World) (h:NamesAt w A n c l) :
  Calls Tryz.prog 22 #[.slice A n c,.string x] w fun e w'=>e=.returned (.bool (decide (x∈l)))∧w=w':=by
 have hn:=RowsAt.n_le h
 have Hl:=Lhd h.len
 have Hat:=Lhd (fun k hk=>NamesAt.at_ h (k:=k) hk)
 clear h
 go_enter Tryz.func22,Tryz.ntmps22
 go_wp2
 go_loop [5] (fun i=>∃ k:Nat,k≤n∧i=.int .i64 k∧∀ y∈l.take k,(y.toList==x.toList)=false) (fun i=>n-(intOf i).toNat)
 case atStart=>exact⟨0,Nat.zero_le _,rfl,by simp⟩
 case round =>
  obtain⟨k,hk,rfl,hall⟩:=hrel
  have Hall:=Lhd hall
  clear hall
  by_cases hlt:k<n
  ·obtain⟨b,o,y,rfl,hbl,hy,hc0⟩:=Hat.out k hlt
   have Hy:=Lhd hy
   clear hy
   by_cases he:(y.toList==x.toList)=true
   ·have Hf:Hid (decide (x∈l)=true):=Lhd (by
     have hxs:y=x:=by simpa [bs_eq] using he
     exact decide_eq_true (hxs▸List.mem_of_getElem? Hy.out))
    go_wp2
    go_ret
    exact⟨ret_bool Hf.out.symm,rfl⟩
   ·have he:(y.toList==x.toList)=false:=by simpa using he
    have Hnx:=Lhd (mem_take_succ Hy.out Hall.out he)
    go_wp2
    go_round
    case rel=>exact⟨k+1,by omega,by go_num,Hnx.out⟩
    case measure=>simp[intOf];omega
  ·have Hf:Hid (decide (x∈l)=false):=Lhd (by
    have h1:=Hall.out
    rw[List.take_of_length_le (by rw[Hl.out];omega)] at h1
    refine decide_eq_false fun hx=>?_
    have:=h1 x hx
    simp at this)
   go_wp2
   go_ret
   exact⟨ret_bool Hf.out.symm,rfl⟩
def FindIs (M:List Stp) (x:ByteArray) (i:Int):Prop:=(x ∉ M.map Stp.name∧i = -1)∨∃ (k:Nat) (s:Stp),i=k∧M[k]?=some s∧s.name=x
theorem findR_any (F:Nat→Prop) (A:Option Addr) (n c:Nat) (M:List Stp) (x:ByteArray) (w:World) (h:StpsAt F w A n c M) :
  Calls Tryz.prog 19 #[.slice A n c,.string x] w fun e w'=>(∃ i:Int,e=.returned (.int .i64 i)∧FindIs M x i)∧w=w':=by
 have hn:=LsAt.n_le h
 have Hl:=Lhd (LsAt.len h)
 have Hat:=Lhd (fun k hk=>StpsAt.get h (k:=k) hk)
 clear h
 go_enter Tryz.func19,Tryz.ntmps19
 go_wp2
 go_loop [5] (fun i=>∃ k:Nat,k≤n∧i=.int .i64 k∧∀ y∈M.take k,(y.name.toList==x.toList)=false) (fun i=>n-(intOf i).toNat)
 case atStart=>exact⟨0,Nat.zero_le _,rfl,by simp⟩
 case round =>
  obtain⟨k,hk,rfl,hall⟩:=hrel
  have Hall:=Lhd hall
  clear hall
  by_cases hlt:k<n
  ·obtain⟨b,o,s,A2,n2,c2,rfl,hbl,hs,_,_,hc0,_,_,_⟩:=Hat.out k hlt
   have Hs:=Lhd hs
   clear hs
   by_cases he:(s.name.toList==x.toList)=true
   ·have Hf:Hid (s.name=x):=Lhd (by simpa [bs_eq] using he)
    go_wp2
    go_ret
    exact⟨⟨k,rfl,.inr ⟨k,s,rfl,Hs.out,Hf.out⟩⟩,rfl⟩
   ·have he:(s.name.toList==x.toList)=false:=by simpa using he
    have Hnx:=Lhd (mem_take_succ Hs.out Hall.out he)
    go_wp2
    go_round
    case rel=>exact⟨k+1,by omega,by go_num,Hnx.out⟩
    case measure=>simp[intOf];omega
  ·have Hf:Hid (x ∉ M.map Stp.name):=Lhd (by
    have h1:=Hall.out
    rw[List.take_of_length_le (by rw[Hl.out];omega)] at h1
    intro hx
    obtain⟨s,hs,rfl⟩:=List.mem_map.1 hx
    have:=h1 s hs
    simp at this)
   go_wp2
   go_ret
   exact⟨⟨-1,rfl,.inl ⟨Hf.out,rfl⟩⟩,rfl⟩
end Go.Proofs.YtomfpjgcficlgaaGreat
