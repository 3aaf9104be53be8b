/- Parts of this proof, one behind the other: RefU, RefV, RefP, RefA, RefJ, RefK. -/
import Derived.Test.YtomfpjgcficlgaaGreatFn13
import Derived.Sort.Walk0
import Derived.Test.YtomfpjgcficlgaaGreatFn4
import Derived.Outline
set_option maxRecDepth 1000000
set_option maxHeartbeats 40000000
namespace Go.Proofs.YtomfpjgcficlgaaGreat
open Go.RowKit Go.Afx Go.Maps Go.ChangeMaps
def putB:List ByteArray→ByteArray→List ByteArray
 | [],s=>[s]
 | x::r,s=>if x.data.toList<s.data.toList then x::putB r s else if x=s then x::r else s::x::r
def Rises (l:List ByteArray):Prop:=l.Pairwise fun x y=>x.data.toList<y.data.toList
theorem mem_putB (l:List ByteArray) (s y:ByteArray):y∈putB l s ↔ y=s∨y∈l:=by
 induction l with
 | nil=>simp[putB]
 | cons x r ih =>
  unfold putB
  split
  ·simp only[List.mem_cons,ih]
   exact⟨fun h=>by rcases h with h|h|h<;>simp[h],fun h=>by rcases h with h|h|h<;>simp[h]⟩
  ·split
   ·rename_i h;subst h;simp
   ·simp
theorem lt_of_not {a b:List UInt8} (h:¬ a<b) (hne:a≠b):b<a:=by
 have h1:b≤a:=List.not_lt.1 h
 rcases List.le_iff_lt_or_eq.1 h1 with h2|h2
 ·exact h2
 ·exact absurd h2.symm hne
theorem Rises.put {l:List ByteArray} (h:Rises l) (s:ByteArray):Rises (putB l s):=by
 induction l with
 | nil=>simp[putB,Rises]
 | cons x r ih =>
  obtain⟨h1,h2⟩:=List.pairwise_cons.1 h
  unfold putB
  split
  ·rename_i hlt
   refine List.pairwise_cons.2 ⟨fun y hy=>?_,ih h2⟩
   rcases (mem_putB r s y).1 hy with rfl|hy
   ·exact hlt
   ·exact h1 y hy
  ·split
   ·exact h
   ·rename_i hn hne
    have hsx:s.data.toList<x.data.toList:=lt_of_not hn (fun e=>hne (data_inj e))
    refine List.pairwise_cons.2 ⟨fun y hy=>?_,h⟩
    rcases List.mem_cons.1 hy with rfl|hy
    ·exact hsx
    ·exact List.lt_trans hsx (h1 y hy)
def putsB (l L:List ByteArray):List ByteArray:=L.foldl putB l
theorem Rises.puts (L:List ByteArray):∀ {l:List ByteArray},Rises l→Rises (putsB l L):=by
 induction L with
 | nil=>intro l h;exact h
 | cons a r ih=>intro l h;exact ih (h.put a)
theorem mem_putsB (L:List ByteArray):∀ (l:List ByteArray) (y:ByteArray),y∈putsB l L ↔ y∈L∨y∈l:=by
 induction L with
 | nil=>intro l y;simp[putsB]
 | cons a r ih =>
  intro l y
  have e:putsB l (a::r)=putsB (putB l a) r:=rfl
  rw[e,ih,mem_putB]
  simp only[List.mem_cons]
  exact⟨fun h=>by rcases h with h|h|h<;>simp[h],fun h=>by rcases h with (h|h)|h<;>simp[h]⟩
theorem putsB_append (l L M:List ByteArray):putsB l (L++M)=putsB (putsB l L) M:=List.foldl_append
theorem Rises.nodup {l:List ByteArray} (h:Rises l):l.Nodup:=h.imp fun h e=>by subst e;exact List.lt_irrefl _ h
def Texts (D:DataW Unit):Prop:=∃ es,D=.map es∧es.Pairwise (fun p q=>p.1≠q.1)∧∀ p∈es,∃ x,p.1=.string x
theorem texts_fold (L:List ByteArray):∀ (D:DataW Unit),Texts D→Tidy D→Texts ((L.map litS).foldl (fun m x=>m.put x (.lit (.bool true))) D):=by
 induction L with
 | nil=>intro D h _;exact h
 | cons a r ih =>
  intro D h ht
  have ht2:Tidy (D.put (litS a) (.lit (.bool true))):=ht.put (by simp[litS,WideAt.IsKeyLit]) _
  refine ih _ ?_ ht2
  obtain⟨es,rfl,hp,hs⟩:=h
  obtain⟨es2,he,hp2⟩:=ht2
  refine⟨es2,he,hp2,fun p hpm=>?_⟩
  have e2:(DataW.map es:DataW Unit).put (litS a) (.lit (.bool true))=.map (DataW.insert (litS a,.lit (.bool true)) (es.filter fun p=>!p.1.sameKey (litS a))):=rfl
  rw[e2] at he
  injection he with he
  rw[← he] at hpm
  rcases mem_insert_iff.1 hpm with rfl|hpm
  ·exact⟨_,rfl⟩
  ·exact hs p (List.mem_filter.1 hpm).1
theorem setL_puts (L:List ByteArray):setL L=(putsB [] L).map (·.data.toList):=by
 have hR:Rises (putsB [] L):=Rises.puts L List.Pairwise.nil
 have ht:Texts (setOf (.lit (.bool true)) (L.map litS):DataW Unit):=texts_fold L _ ⟨[],rfl,List.Pairwise.nil,by simp⟩ tidy_empty
 obtain⟨es,he,hp,hs⟩:=ht
 have hnd:((putsB [] L).map (·.data.toList)).Nodup:=(bytesL_nodup _).2 hR.nodup
 have hperm:((putsB [] L).map (·.data.toList)).Perm (strKeys (.map es:DataW Unit)):=by
  refine perm_strKeys hp hs hnd fun x=>?_
  have hh:=has_setOf (.lit (.bool true):DataW Unit) (.string x) (L.map litS) (fun y hy=>by obtain⟨z,_,rfl⟩:=List.mem_map.1 hy;simp[litS,WideAt.IsKeyLit])
  rw[← he,hh,List.any_eq_true]
  constructor
  ·intro h
   obtain⟨y,hy,rfl⟩:=List.mem_map.1 h
   have:=(mem_putsB L [] y).1 hy
   simp only[List.not_mem_nil,or_false] at this
   exact⟨litS y,List.mem_map.2 ⟨y,this,rfl⟩,WideAt.sameKey_self (by simp[litS,WideAt.IsKeyLit])⟩
  ·rintro⟨z,hz,hk⟩
   obtain⟨y,hy,rfl⟩:=List.mem_map.1 hz
   have hxy:litS y=.string x:=by
    by_cases h:litS y=.string x
    ·exact h
    ·rw[sameKey_ne h] at hk;cases hk
   simp only[litS,Lit.string.injEq] at hxy
   subst hxy
   exact List.mem_map.2 ⟨y,(mem_putsB L [] y).2 (.inl hy),rfl⟩
 have hs1:((putsB [] L).map (·.data.toList)).Pairwise (fun x y=>x≤y):=by
  rw[List.pairwise_map]
  exact hR.imp fun h=>List.le_of_lt h
 rw[setL,he]
 refine List.Perm.eq_of_pairwise (le:=fun x y=>x≤y) (fun a b _ _ h1 h2=>List.le_antisymm h1 h2) (sort_rises _) hs1 ((List.mergeSort_perm _ _).trans hperm.symm)
open Go.RowKit Go.Afx
theorem bless_eq (x y:ByteArray):Op.bytesLess x.toList y.toList=decide (x.data.toList<y.data.toList):=by
 rw[bytesLess_eq,ByteArray.toList_eq,ByteArray.toList_eq]
theorem putB_at (s:ByteArray):∀ (l:List ByteArray) (k:Nat),(∀ y∈l.take k,Op.bytesLess y.toList s.toList=true)→(k=l.length∨∃ x,l[k]?=some x∧Op.bytesLess x.toList s.toList=false) →
  putB l s=if l[k]?=some s then l else l.take k++s::l.drop k:=by
 intro l
 induction l with
 | nil=>intro k _ h2;simp[putB]
 | cons a r ih =>
  intro k h1 h2
  cases k with
  | zero =>
   rcases h2 with h2|⟨x,hx,hn⟩
   ·simp at h2
   ·simp at hx
    subst hx
    rw[bless_eq,decide_eq_false_iff_not] at hn
    rw[putB,if_neg hn]
    simp
  | succ k =>
   have ha:=h1 a (by simp)
   rw[bless_eq,decide_eq_true_iff] at ha
   rw[putB,if_pos ha,ih k (fun y hy=>h1 y (by simp[hy])) (by
    rcases h2 with h2|⟨x,hx,hn⟩
    ·exact .inl (by simpa using h2)
    ·exact .inr ⟨x,by simpa using hx,hn⟩)]
   simp only[List.getElem?_cons_succ,List.take_succ_cons,List.drop_succ_cons,List.cons_append]
   split<;>rfl
def pickN (k:Int) (n:Nat):Nat:=n-1-(IntKind.u64.wrap k % (n:Int)).toNat
def inB (s:ByteArray) (c:UInt8):Bool:=s.data.toList.any fun x=>x==c
theorem in_any (s:ByteArray) (c:UInt8) (w:World) (hs:okS s):Calls Tryz.prog 79 #[.string s,.int .u8 (c.toNat:Int)] w fun x w'=>x=.returned (.bool (inB s c))∧w=w':=by
 unfold okS at hs
 go_enter Tryz.func79,Tryz.ntmps79
 go_wp2
 go_loop [5] (fun i=>∃ k:Nat,k≤s.size∧i=.int .i64 k∧∀ y∈s.data.toList.take k,(y==c)=false) (fun i=>s.size-(intOf i).toNat)
 case atStart=>exact⟨0,Nat.zero_le _,rfl,by simp⟩
 case round =>
  obtain⟨k,hk,rfl,hno⟩:=hrel
  have Hno:=Lhd hno
  clear hno
  by_cases hlt:k<s.size
  ·have Hy:=Lhd (show s.data.toList[k]?=some s[k] by rw[List.getElem?_eq_getElem (by simpa using hlt)];rfl)
   by_cases he:(s[k]==c)=true
   ·have Hf:Hid (inB s c=true):=Lhd (by unfold inB;rw[List.any_eq_true];exact⟨_,List.mem_of_getElem? Hy.out,he⟩)
    have hd:((s[k].toNat:Int)==(c.toNat:Int))=true:=by
     have:s[k]=c:=by simpa using he
     rw[this];simp
    clear he
    go_wp2
    go_ret
    exact⟨ret_bool Hf.out.symm,rfl⟩
   ·have he:(s[k]==c)=false:=by simpa using he
    have Hne:=Lhd (mem_take_succ Hy.out Hno.out he)
    have hd:((s[k].toNat:Int)==(c.toNat:Int))=false:=by
     rw[beq_eq_false_iff_ne]
     intro h
     have h2:s[k].toNat=c.toNat:=by exact_mod_cast h
     have:s[k]=c:=UInt8.toNat_inj.1 h2
     simp[this] at he
    clear he
    go_wp2
    go_round
    case rel=>exact⟨k+1,by omega,by go_num,Hne.out⟩
    case measure=>simp[intOf];omega
  ·go_wp2
   go_ret
   have h1:=Hno.out
   rw[List.take_of_length_le (by simp;omega)] at h1
   exact⟨ret_bool (by unfold inB;rw[eq_comm,List.any_eq_false];exact fun y hy=>by simp[h1 y hy]),rfl⟩
def atB (part:ByteArray) (l:List Co):Bool:=noS part||l.any fun c=>decide (c.name=part)
def refH (name src part:ByteArray) (fuel:Int) (params:List Co):Bool :=
 params.all (fun c=>freeB c.name&&kindB c)&&decide (params.map Co.name).Nodup&&!(!noS src&&(!freeB src||decide (0<params.length)))&&(freeB name&&decide (params.length≤8)&&atB part params&&decide (1≤fuel)&&decide (fuel≤2000))
theorem refH_heads (name src part:ByteArray) (fuel:Int) (params:List Co):refH name src part fuel params=headsR name src part fuel params:=by
 have e1:params.all (fun c=>freeB c.name&&kindB c)=(params.all kindB&&freesB (params.map Co.name)):=by
  rw[freesB_all]
  induction params with
  | nil=>rfl
  | cons a r ih =>
   rw[List.all_cons,List.all_cons,List.map_cons,List.all_cons,ih]
   cases freeB a.name<;>cases kindB a<;>cases (List.all r kindB)<;>cases (List.all (r.map Co.name) freeB)<;>rfl
 have e2:atB part params=(noS part||(params.map Co.name).any fun x=>decide (x=part)):=by
  unfold atB
  rw[List.any_map]
  rfl
 have e3:params.length=0→(params.map Co.name).any (fun x=>decide (x=part))=false:=fun h=>by
  rw[List.eq_nil_of_length_eq_zero h];rfl
 unfold refH headsR
 rw[e1,e2]
 generalize params.all kindB=a at *
 generalize freesB (params.map Co.name)=b at *
 generalize decide (params.map Co.name).Nodup=c at *
 generalize freeB name=d at *
 generalize freeB src=g at *
 generalize (params.map Co.name).any (fun x=>decide (x=part))=h at *
 generalize noS src=i at *
 generalize noS part=j at *
 rcases Nat.eq_zero_or_pos params.length with h0|h0
 ·rw[h0,e3 h0]
  cases a<;>cases b<;>cases c<;>cases d<;>cases g<;>cases i<;>cases j<;>simp
 ·have h1:decide (0<params.length)=true:=by simpa using h0
  have h2:decide (params.length=0)=false:=by simp;intro h;rw[h] at h0;simp at h0
  rw[h1,h2]
  cases a<;>cases b<;>cases c<;>cases d<;>cases g<;>cases i<;>cases j<;>cases h<;>simp<;>try (cases decide (params.length≤8)<;>cases decide (1≤fuel)<;>cases decide (fuel≤2000)<;>rfl)
theorem prBoxK {w:World} {g:Nat} {T:TypeId} {v0 v1 v2 v3 v4 v5:Value} (h:IsBlk w g T #[v0,v1,v2,v3,v4,v5]) :
  w.cell? ⟨g,0,none⟩=some v0∧w.cell? ⟨g,1,none⟩=some v1∧w.cell? ⟨g,2,none⟩=some v2∧w.cell? ⟨g,3,none⟩=some v3∧w.cell? ⟨g,4,none⟩=some v4∧w.cell? ⟨g,5,none⟩=some v5∧g<w.heap.size:=by
 have h0:=h.cell 0;have h1:=h.cell 1;have h2:=h.cell 2;have h3:=h.cell 3;have h4:=h.cell 4;have h5:=h.cell 5
 simp at h0 h1 h2 h3 h4 h5
 exact⟨h0,h1,h2,h3,h4,h5,h.lt⟩
theorem atB_snoc {part:ByteArray} {l:List Co} {k:Nat} {x:Co} (h:l[k]?=some x):atB part (l.take (k+1))=(atB part (l.take k)||decide (x.name=part)):=by
 unfold atB
 rw[take_succ_of' h,List.any_append]
 simp[Bool.or_assoc]
theorem strE (s:ByteArray):(s.toList==[])=noS s:=by
 cases h:noS s
 ·have:=str_some h
  cases hq:s.toList with
  | nil=>rw[hq] at this;cases this
  | cons a r=>rfl
 ·rw[str_empty h];rfl
theorem rheads_any (F:Nat→Prop) (name src part:ByteArray) (fuel:Int) (Ap Ab:Option Addr) (np cp nb cb:Nat) (params:List Co) (w:World) (hp:LsAt F w 2 CoRow Ap np cp params) (okn:okS name) (oks:okS src) :
  Calls Tryz.prog 33 #[.agg #[.string name,.string src,.string part,.int .i64 fuel,.slice Ap np cp,.slice Ab nb cb]] w fun e w'=>e=.returned (.bool (refH name src part fuel params))∧Below w.heap.size w w':=by
 have hnp:=hp.n_le
 have Hl:=Lhd (LsAt.len hp)
 obtain⟨w2,Hw2⟩:∃ w2,Hid (w2=w.alloc (.cells #[.string name,.string src,.string part,.int .i64 fuel,.slice Ap np cp,.slice Ab nb cb] 46)):=⟨_,rfl⟩
 have hb2:Below w.heap.size w w2:=by rw[Hw2.out];exact(Below.refl _ _).alloc (Nat.le_refl _) _
 have hx2:IsBlk w2 w.heap.size 46 #[.string name,.string src,.string part,.int .i64 fuel,.slice Ap np cp,.slice Ab nb cb]:=by rw[Hw2.out];exact IsBlk.laid _ _ _
 have HX:=Lhd (fun W (hW:Below w2.heap.size w2 W)=>prBoxK (hx2.as_was (hW.block _ hx2.lt)))
 have Hp2:=Lhd (fun W (hW:Below w2.heap.size w2 W)=>(hp.below hb2).below hW)
 have Hb2:=Lhd hb2
 obtain⟨x0,x1,x2,x3,x4,x5,xl⟩:=prBoxK hx2
 have hse:=strE part
 obtain⟨a0,Ha0⟩:∃ b,Hid (noS part=b):=⟨_,rfl⟩
 rw[Ha0.out] at hse
 have Hat0:Hid (atB part []=a0):=Lhd (by unfold atB;rw[Ha0.out];simp)
 have H22:=Lhd (Below.refl w2.heap.size w2)
 clear hp hx2 hb2
 go_enter Tryz.func33,Tryz.ntmps33
 go_upto_region 1 with (fail)
 rw[← Hw2.out]
 go_wp2
 go_loopw [3,4] (fun u3 i wr=>∃ k:Nat,k≤np∧i=.int .i64 k∧u3=.bool (atB part (params.take k))∧(∀ c∈params.take k,(freeB c.name&&kindB c)=true)∧((params.take k).map Co.name).Nodup∧Below w2.heap.size w2 wr) (fun _ i _=>np-(intOf i).toNat)
 case atStart=>exact⟨0,Nat.zero_le _,rfl,by rw[List.take_zero,Hat0.out],by simp,by simp,H22.out⟩
 case round =>
  clear x0 x1 x2 x3 x4 x5 xl hse
  generalize wr=w7 at *
  obtain⟨k,hk,rfl,rfl,hall,hnd,hB7⟩:=hrel
  obtain⟨av,Hav⟩:∃ b,Hid (atB part (params.take k)=b):=⟨_,rfl⟩
  rw[Hav.out]
  have Hall:=Lhd hall
  have Hnd:=Lhd hnd
  have H27:=Lhd hB7
  have H07:=Lhd (Hb2.out.trans (hB7.mono Hb2.out.size))
  obtain⟨z0,z1,z2,z3,z4,z5,zl⟩:=HX.out w7 hB7
  clear hall hnd hB7
  by_cases hlt:k<np
  ·obtain⟨b,o,c,rfl,hbl,hck,okc,oki,hc0,hc1⟩:=coAt (Hp2.out w7 H27.out) hlt
   have Hck:=Lhd hck
   have hstep:=atB_snoc (part:=part) hck
   rw[Hav.out] at hstep
   have Hstep:=Lhd hstep
   obtain⟨q,Hq⟩:∃ q,Hid (freeB c.name=q):=⟨_,rfl⟩
   have hFc:=fun W=>freeRef_any c.name W okc
   rw[Hq.out] at hFc
   have HFc:=Lhd hFc
   clear hck hFc hstep
   have Hno:Hid (∀ v:Bool,(freeB c.name&&kindB c)=false→refH name src part fuel params=false):=Lhd (fun _ hv=>by
    have h1:params.all (fun c=>freeB c.name&&kindB c)=false:=by rw[List.all_eq_false];exact⟨c,List.mem_of_getElem? Hck.out,by rw[hv];simp⟩
    unfold refH;rw[h1];simp)
   cases q
   ·go_wp2_with (go_at_call 54;refine(HFc.out _).mono ?_;rintro e w8 ⟨rfl,hb8⟩)
    go_ret
    exact⟨ret_bool (by rw[Hno.out true (by rw[Hq.out];rfl)]),H07.out.trans (hb8.mono H07.out.size)⟩
   have Hcc:=Lhd (fun W (hW:Below w2.heap.size w2 W)=>coAt (Hp2.out W hW) hlt)
   by_cases hk1:c.kind<1
   ·have Hkb:Hid (kindB c=false):=Lhd (by unfold kindB;simp;omega)
    go_wp2_with (go_at_call 54;refine(HFc.out _).mono ?_;rintro e w8 ⟨rfl,hb8⟩;(obtain⟨t0,t1,t2,t3,t4,t5,tl⟩:=HX.out w8 (H27.out.trans (hb8.mono H27.out.size)));(have s0:=(hb8.cell (p:=⟨b,o+k*2,none⟩) hbl).trans hc0);(have s1:=(hb8.cell (p:=⟨b,o+k*2+1,none⟩) hbl).trans hc1))
    go_ret
    exact⟨ret_bool (by rw[Hno.out true (by rw[Hkb.out];simp)]),H07.out.trans (hb8.mono H07.out.size)⟩
   by_cases hk3:3<c.kind
   ·have Hkb:Hid (kindB c=false):=Lhd (by unfold kindB;simp;omega)
    go_wp2_with (go_at_call 54;refine(HFc.out _).mono ?_;rintro e w8 ⟨rfl,hb8⟩;(obtain⟨t0,t1,t2,t3,t4,t5,tl⟩:=HX.out w8 (H27.out.trans (hb8.mono H27.out.size)));(have s0:=(hb8.cell (p:=⟨b,o+k*2,none⟩) hbl).trans hc0);(have s1:=(hb8.cell (p:=⟨b,o+k*2+1,none⟩) hbl).trans hc1))
    go_ret
    exact⟨ret_bool (by rw[Hno.out true (by rw[Hkb.out];simp)]),H07.out.trans (hb8.mono H07.out.size)⟩
   have Hkb:Hid (kindB c=true):=Lhd (by unfold kindB;simp;omega)
   obtain⟨he,Hhe⟩:∃ b,Hid (decide (c.name=part)=b):=⟨_,rfl⟩
   have heq:(part.toList==c.name.toList)=he:=by rw[bs_eq,← Hhe.out,decide_eq_decide];exact eq_comm
   cases av
   all_goals
    go_wp2_with (go_at_call 54;refine(HFc.out _).mono ?_;rintro e w8 ⟨rfl,hb8⟩;(obtain⟨t0,t1,t2,t3,t4,t5,tl⟩:=HX.out w8 (H27.out.trans (hb8.mono H27.out.size)));(have s0:=(hb8.cell (p:=⟨b,o+k*2,none⟩) hbl).trans hc0);(have s1:=(hb8.cell (p:=⟨b,o+k*2+1,none⟩) hbl).trans hc1))
    go_quiet (fail)
    go_wp2
    have H28:=Lhd (below_drewN (H27.out.trans (hb8.mono H27.out.size)) nq)
    clear z0 z1 z2 z3 z4 z5 zl t0 t1 t2 t3 t4 t5 tl s0 s1 heq
    go_loopw [5] (fun i wr=>∃ j:Nat,j≤k∧i=.int .i64 j∧(∀ y∈params.take j,(y.name.toList==c.name.toList)=false)∧Below w2.heap.size w2 wr) (fun i _=>k-(intOf i).toNat)
    case atStart=>exact⟨0,Nat.zero_le _,rfl,by simp,H28.out⟩
    case round =>
     obtain⟨j,hj,rfl,hne',hB9⟩:=hrel
     have Hne':=Lhd hne'
     clear hne'
     obtain⟨z0,z1,z2,z3,z4,z5,zl⟩:=HX.out wr hB9
     by_cases hjk:j<k
     ·obtain⟨b',o',y,hA',hbl2,hyj,_,_,hd0,hd1⟩:=coAt (Hp2.out wr hB9) (k:=j) (by omega)
      obtain⟨b'',o'',y'',hA'',hbl3,hyk,_,_,hd2,hd3⟩:=Hcc.out wr hB9
      simp only[Option.some.injEq,Addr.mk.injEq,and_true] at hA' hA''
      obtain⟨rfl,rfl⟩:=hA'
      obtain⟨rfl,rfl⟩:=hA''
      have e2:=Hck.out.symm.trans hyk
      injection e2 with e2
      subst e2
      have Hyj:=Lhd hyj
      clear hyj hyk
      by_cases hsame:(y.name.toList==c.name.toList)=true
      ·have Hf:Hid (refH name src part fuel params=false):=Lhd (by
        have h1:decide (params.map Co.name).Nodup=false:=by
         rw[decide_eq_false_iff_not]
         intro hn2
         have hyx:y.name=c.name:=by simpa [bs_eq] using hsame
         have a1:=(List.getElem?_eq_some_iff.1 Hyj.out)
         have a2:=(List.getElem?_eq_some_iff.1 Hck.out)
         have h3:=(List.getElem_inj (xs:=params.map Co.name) (i:=j) (j:=k) (h₀:=by simpa using a1.1) (h₁:=by simpa using a2.1) hn2).1 (by simp[a1.2,a2.2,hyx])
         omega
        unfold refH;rw[h1];simp)
       have H09:=Lhd (Hb2.out.trans (hB9.mono Hb2.out.size))
       go_wp2
       go_quiet (fail)
       go_wp2
       go_ret
       exact⟨ret_bool (by rw[Hf.out]),below_drewN H09.out _⟩
      ·have hsame:(y.name.toList==c.name.toList)=false:=by simpa using hsame
       have Hnx:=Lhd (mem_take_succ Hyj.out Hne'.out hsame)
       go_wp2
       go_quiet (fail)
       go_wp2
       go_roundw
       case rel=>exact⟨j+1,by omega,by go_num,Hnx.out,below_drewN hB9 _⟩
       case measure=>simp[intOf];omega
     ·have Hf1:=Lhd (mem_take_succ Hck.out Hall.out (P:=fun c=>(freeB c.name&&kindB c)=true) (by rw[Hq.out,Hkb.out];rfl))
      have Hn1:Hid (((params.take (k+1)).map Co.name).Nodup):=Lhd (by
       rw[take_succ_of' Hck.out,List.map_append,List.nodup_append]
       refine⟨Hnd.out,by simp,fun a ha b hb e=>?_⟩
       simp at hb
       obtain⟨y,hy,rfl⟩:=List.mem_map.1 ha
       have hjk':j=k:=by omega
       have h5:=Hne'.out y (by rw[hjk'];exact hy)
       rw[e,hb] at h5
       simp at h5)
      go_wp2
      go_roundw
      case rel=>exact⟨k+1,by omega,by go_num,by rw[Hstep.out,Hhe.out];cases he<;>rfl,Hf1.out,Hn1.out,hB9⟩
      case measure=>simp[intOf];omega
  ·have Hfull:Hid (params.all (fun c=>freeB c.name&&kindB c)=true∧decide (params.map Co.name).Nodup=true∧atB part params=av):=Lhd (by
    have h1:=Hall.out
    have h2:=Hnd.out
    have h3:=Hav.out
    rw[List.take_of_length_le (by rw[Hl.out];omega)] at h1 h2 h3
    exact⟨by rw[List.all_eq_true];exact h1,by simpa using h2,h3⟩)
   obtain⟨es,Hes⟩:∃ b,Hid (noS src=b):=⟨_,rfl⟩
   obtain⟨q2,Hq2⟩:∃ b,Hid (freeB src=b):=⟨_,rfl⟩
   obtain⟨q1,Hq1⟩:∃ b,Hid (freeB name=b):=⟨_,rfl⟩
   have HR:Hid (refH name src part fuel params=(!(!es&&(!q2||decide (0<np)))&&(q1&&decide (np≤8)&&av&&decide (1≤fuel)&&decide (fuel≤2000)))):=Lhd (by
    unfold refH;rw[Hfull.out.1,Hfull.out.2.1,Hfull.out.2.2,Hes.out,Hq2.out,Hq1.out,Hl.out];simp)
   have hF1:=fun W=>freeRef_any name W okn
   have hF2:=fun W=>freeRef_any src W oks
   rw[Hq1.out] at hF1
   rw[Hq2.out] at hF2
   have HF1:=Lhd hF1
   have HF2:=Lhd hF2
   clear hF1 hF2
   have hes:=Hes.out
   cases es
   ·have gs:=str_some hes
    have gs2:(src.toList==[])=false:=by rw[strE,hes]
    have gs3:(src.toList !=[])=true:=by show (!(src.toList==[]))=true;rw[gs2];rfl
    clear hes
    cases q2
    ·skip
     go_wp2_with (first|(go_at_call 54;(with_reducible refine(HF2.out _).mono ?_);rintro e w8 ⟨rfl,hb8⟩;have hB8:=H27.out.trans (hb8.mono H27.out.size);obtain⟨t0,t1,t2,t3,t4,t5,tl⟩:=HX.out w8 hB8)|(go_at_call 54;(with_reducible refine(HF1.out _).mono ?_);rintro e w9 ⟨rfl,hb9⟩;have hB9:Below w2.heap.size w2 w9:=(by first|exact hB8.trans (hb9.mono hB8.size)|exact H27.out.trans (hb9.mono H27.out.size));obtain⟨s0,s1,s2,s3,s4,s5,sl⟩:=HX.out w9 hB9))
     go_ret
     exact⟨ret_bool (by rw[HR.out];simp[*]),by first|exact Hb2.out.trans (hB9.mono Hb2.out.size)|exact Hb2.out.trans (hB8.mono Hb2.out.size)⟩
    by_cases h0:0<np
    ·have d0:decide ((0:Int)<(np:Int))=true:=by simp;omega
     go_wp2_with (first|(go_at_call 54;(with_reducible refine(HF2.out _).mono ?_);rintro e w8 ⟨rfl,hb8⟩;have hB8:=H27.out.trans (hb8.mono H27.out.size);obtain⟨t0,t1,t2,t3,t4,t5,tl⟩:=HX.out w8 hB8)|(go_at_call 54;(with_reducible refine(HF1.out _).mono ?_);rintro e w9 ⟨rfl,hb9⟩;have hB9:Below w2.heap.size w2 w9:=(by first|exact hB8.trans (hb9.mono hB8.size)|exact H27.out.trans (hb9.mono H27.out.size));obtain⟨s0,s1,s2,s3,s4,s5,sl⟩:=HX.out w9 hB9))
     go_ret
     exact⟨ret_bool (by rw[HR.out];simp[*]),by first|exact Hb2.out.trans (hB9.mono Hb2.out.size)|exact Hb2.out.trans (hB8.mono Hb2.out.size)⟩
    have d0:decide ((0:Int)<(np:Int))=false:=by simp;omega
    cases q1
    ·skip
     go_wp2_with (first|(go_at_call 54;(with_reducible refine(HF2.out _).mono ?_);rintro e w8 ⟨rfl,hb8⟩;have hB8:=H27.out.trans (hb8.mono H27.out.size);obtain⟨t0,t1,t2,t3,t4,t5,tl⟩:=HX.out w8 hB8)|(go_at_call 54;(with_reducible refine(HF1.out _).mono ?_);rintro e w9 ⟨rfl,hb9⟩;have hB9:Below w2.heap.size w2 w9:=(by first|exact hB8.trans (hb9.mono hB8.size)|exact H27.out.trans (hb9.mono H27.out.size));obtain⟨s0,s1,s2,s3,s4,s5,sl⟩:=HX.out w9 hB9))
     go_ret
     exact⟨ret_bool (by rw[HR.out];simp[*]),by first|exact Hb2.out.trans (hB9.mono Hb2.out.size)|exact Hb2.out.trans (hB8.mono Hb2.out.size)⟩
    have h8:np≤8:=by omega
    have d8:decide ((np:Int)≤8)=true:=by simp;omega
    cases av
    ·skip
     go_wp2_with (first|(go_at_call 54;(with_reducible refine(HF2.out _).mono ?_);rintro e w8 ⟨rfl,hb8⟩;have hB8:=H27.out.trans (hb8.mono H27.out.size);obtain⟨t0,t1,t2,t3,t4,t5,tl⟩:=HX.out w8 hB8)|(go_at_call 54;(with_reducible refine(HF1.out _).mono ?_);rintro e w9 ⟨rfl,hb9⟩;have hB9:Below w2.heap.size w2 w9:=(by first|exact hB8.trans (hb9.mono hB8.size)|exact H27.out.trans (hb9.mono H27.out.size));obtain⟨s0,s1,s2,s3,s4,s5,sl⟩:=HX.out w9 hB9))
     go_ret
     exact⟨ret_bool (by rw[HR.out];simp[*]),by first|exact Hb2.out.trans (hB9.mono Hb2.out.size)|exact Hb2.out.trans (hB8.mono Hb2.out.size)⟩
    by_cases f1:1≤fuel
    rotate_left
    ·have e1:decide (1≤fuel)=false:=by simpa using f1
     go_wp2_with (first|(go_at_call 54;(with_reducible refine(HF2.out _).mono ?_);rintro e w8 ⟨rfl,hb8⟩;have hB8:=H27.out.trans (hb8.mono H27.out.size);obtain⟨t0,t1,t2,t3,t4,t5,tl⟩:=HX.out w8 hB8)|(go_at_call 54;(with_reducible refine(HF1.out _).mono ?_);rintro e w9 ⟨rfl,hb9⟩;have hB9:Below w2.heap.size w2 w9:=(by first|exact hB8.trans (hb9.mono hB8.size)|exact H27.out.trans (hb9.mono H27.out.size));obtain⟨s0,s1,s2,s3,s4,s5,sl⟩:=HX.out w9 hB9))
     go_ret
     exact⟨ret_bool (by rw[HR.out];simp[*]),by first|exact Hb2.out.trans (hB9.mono Hb2.out.size)|exact Hb2.out.trans (hB8.mono Hb2.out.size)⟩
    have e1:decide (1≤fuel)=true:=by simpa using f1
    by_cases f2:fuel≤2000
    ·have e2:decide (fuel≤2000)=true:=by simpa using f2
     go_wp2_with (first|(go_at_call 54;(with_reducible refine(HF2.out _).mono ?_);rintro e w8 ⟨rfl,hb8⟩;have hB8:=H27.out.trans (hb8.mono H27.out.size);obtain⟨t0,t1,t2,t3,t4,t5,tl⟩:=HX.out w8 hB8)|(go_at_call 54;(with_reducible refine(HF1.out _).mono ?_);rintro e w9 ⟨rfl,hb9⟩;have hB9:Below w2.heap.size w2 w9:=(by first|exact hB8.trans (hb9.mono hB8.size)|exact H27.out.trans (hb9.mono H27.out.size));obtain⟨s0,s1,s2,s3,s4,s5,sl⟩:=HX.out w9 hB9))
     go_ret
     exact⟨ret_bool (by rw[HR.out];simp[*]),by first|exact Hb2.out.trans (hB9.mono Hb2.out.size)|exact Hb2.out.trans (hB8.mono Hb2.out.size)⟩
    ·have e2:decide (fuel≤2000)=false:=by simpa using f2
     go_wp2_with (first|(go_at_call 54;(with_reducible refine(HF2.out _).mono ?_);rintro e w8 ⟨rfl,hb8⟩;have hB8:=H27.out.trans (hb8.mono H27.out.size);obtain⟨t0,t1,t2,t3,t4,t5,tl⟩:=HX.out w8 hB8)|(go_at_call 54;(with_reducible refine(HF1.out _).mono ?_);rintro e w9 ⟨rfl,hb9⟩;have hB9:Below w2.heap.size w2 w9:=(by first|exact hB8.trans (hb9.mono hB8.size)|exact H27.out.trans (hb9.mono H27.out.size));obtain⟨s0,s1,s2,s3,s4,s5,sl⟩:=HX.out w9 hB9))
     go_ret
     exact⟨ret_bool (by rw[HR.out];simp[*]),by first|exact Hb2.out.trans (hB9.mono Hb2.out.size)|exact Hb2.out.trans (hB8.mono Hb2.out.size)⟩
   ·have gs:=str_empty hes
    clear hes
    cases q1
    ·skip
     go_wp2_with (first|(go_at_call 54;(with_reducible refine(HF2.out _).mono ?_);rintro e w8 ⟨rfl,hb8⟩;have hB8:=H27.out.trans (hb8.mono H27.out.size);obtain⟨t0,t1,t2,t3,t4,t5,tl⟩:=HX.out w8 hB8)|(go_at_call 54;(with_reducible refine(HF1.out _).mono ?_);rintro e w9 ⟨rfl,hb9⟩;have hB9:Below w2.heap.size w2 w9:=(by first|exact hB8.trans (hb9.mono hB8.size)|exact H27.out.trans (hb9.mono H27.out.size));obtain⟨s0,s1,s2,s3,s4,s5,sl⟩:=HX.out w9 hB9))
     go_ret
     exact⟨ret_bool (by rw[HR.out];simp[*]),by first|exact Hb2.out.trans (hB9.mono Hb2.out.size)|exact Hb2.out.trans (hB8.mono Hb2.out.size)⟩
    by_cases h8:np≤8
    rotate_left
    ·have d8:decide ((np:Int)≤8)=false:=by simp;omega
     go_wp2_with (first|(go_at_call 54;(with_reducible refine(HF2.out _).mono ?_);rintro e w8 ⟨rfl,hb8⟩;have hB8:=H27.out.trans (hb8.mono H27.out.size);obtain⟨t0,t1,t2,t3,t4,t5,tl⟩:=HX.out w8 hB8)|(go_at_call 54;(with_reducible refine(HF1.out _).mono ?_);rintro e w9 ⟨rfl,hb9⟩;have hB9:Below w2.heap.size w2 w9:=(by first|exact hB8.trans (hb9.mono hB8.size)|exact H27.out.trans (hb9.mono H27.out.size));obtain⟨s0,s1,s2,s3,s4,s5,sl⟩:=HX.out w9 hB9))
     go_ret
     exact⟨ret_bool (by rw[HR.out];simp[*]),by first|exact Hb2.out.trans (hB9.mono Hb2.out.size)|exact Hb2.out.trans (hB8.mono Hb2.out.size)⟩
    have d8:decide ((np:Int)≤8)=true:=by simp;omega
    cases av
    ·skip
     go_wp2_with (first|(go_at_call 54;(with_reducible refine(HF2.out _).mono ?_);rintro e w8 ⟨rfl,hb8⟩;have hB8:=H27.out.trans (hb8.mono H27.out.size);obtain⟨t0,t1,t2,t3,t4,t5,tl⟩:=HX.out w8 hB8)|(go_at_call 54;(with_reducible refine(HF1.out _).mono ?_);rintro e w9 ⟨rfl,hb9⟩;have hB9:Below w2.heap.size w2 w9:=(by first|exact hB8.trans (hb9.mono hB8.size)|exact H27.out.trans (hb9.mono H27.out.size));obtain⟨s0,s1,s2,s3,s4,s5,sl⟩:=HX.out w9 hB9))
     go_ret
     exact⟨ret_bool (by rw[HR.out];simp[*]),by first|exact Hb2.out.trans (hB9.mono Hb2.out.size)|exact Hb2.out.trans (hB8.mono Hb2.out.size)⟩
    by_cases f1:1≤fuel
    rotate_left
    ·have e1:decide (1≤fuel)=false:=by simpa using f1
     go_wp2_with (first|(go_at_call 54;(with_reducible refine(HF2.out _).mono ?_);rintro e w8 ⟨rfl,hb8⟩;have hB8:=H27.out.trans (hb8.mono H27.out.size);obtain⟨t0,t1,t2,t3,t4,t5,tl⟩:=HX.out w8 hB8)|(go_at_call 54;(with_reducible refine(HF1.out _).mono ?_);rintro e w9 ⟨rfl,hb9⟩;have hB9:Below w2.heap.size w2 w9:=(by first|exact hB8.trans (hb9.mono hB8.size)|exact H27.out.trans (hb9.mono H27.out.size));obtain⟨s0,s1,s2,s3,s4,s5,sl⟩:=HX.out w9 hB9))
     go_ret
     exact⟨ret_bool (by rw[HR.out];simp[*]),by first|exact Hb2.out.trans (hB9.mono Hb2.out.size)|exact Hb2.out.trans (hB8.mono Hb2.out.size)⟩
    have e1:decide (1≤fuel)=true:=by simpa using f1
    by_cases f2:fuel≤2000
    ·have e2:decide (fuel≤2000)=true:=by simpa using f2
     go_wp2_with (first|(go_at_call 54;(with_reducible refine(HF2.out _).mono ?_);rintro e w8 ⟨rfl,hb8⟩;have hB8:=H27.out.trans (hb8.mono H27.out.size);obtain⟨t0,t1,t2,t3,t4,t5,tl⟩:=HX.out w8 hB8)|(go_at_call 54;(with_reducible refine(HF1.out _).mono ?_);rintro e w9 ⟨rfl,hb9⟩;have hB9:Below w2.heap.size w2 w9:=(by first|exact hB8.trans (hb9.mono hB8.size)|exact H27.out.trans (hb9.mono H27.out.size));obtain⟨s0,s1,s2,s3,s4,s5,sl⟩:=HX.out w9 hB9))
     go_ret
     exact⟨ret_bool (by rw[HR.out];simp[*]),by first|exact Hb2.out.trans (hB9.mono Hb2.out.size)|exact Hb2.out.trans (hB8.mono Hb2.out.size)⟩
    ·have e2:decide (fuel≤2000)=false:=by simpa using f2
     go_wp2_with (first|(go_at_call 54;(with_reducible refine(HF2.out _).mono ?_);rintro e w8 ⟨rfl,hb8⟩;have hB8:=H27.out.trans (hb8.mono H27.out.size);obtain⟨t0,t1,t2,t3,t4,t5,tl⟩:=HX.out w8 hB8)|(go_at_call 54;(with_reducible refine(HF1.out _).mono ?_);rintro e w9 ⟨rfl,hb9⟩;have hB9:Below w2.heap.size w2 w9:=(by first|exact hB8.trans (hb9.mono hB8.size)|exact H27.out.trans (hb9.mono H27.out.size));obtain⟨s0,s1,s2,s3,s4,s5,sl⟩:=HX.out w9 hB9))
     go_ret
     exact⟨ret_bool (by rw[HR.out];simp[*]),by first|exact Hb2.out.trans (hB9.mono Hb2.out.size)|exact Hb2.out.trans (hB8.mono Hb2.out.size)⟩
end Go.Proofs.YtomfpjgcficlgaaGreat
