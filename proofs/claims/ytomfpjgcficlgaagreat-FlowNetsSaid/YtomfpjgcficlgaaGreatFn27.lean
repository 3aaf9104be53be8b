/- Parts of this proof, one behind the other: FloD, FloG, FloH. -/
import Derived.Test.YtomfpjgcficlgaaGreatFn26
import Derived.Test.YtomfpjgcficlgaaGreatFn14
import Derived.Deep.RegionHeld3
import Derived.Sort.Walk0
import Derived.LoopN
set_option maxRecDepth 1000000
set_option maxHeartbeats 40000000
namespace Go.Proofs.YtomfpjgcficlgaaGreat
open Go.RowKit Go.Afx Go.Maps
def stpOf (d:Nat) (p:Pr):Stp:=⟨p.name,p.src,putsB [] (emitsP d p)⟩
theorem mapMade {P:Program} {K:TypeId} {w:World} {g:Nat} (hg:g=w.heap.size):MapAt P K (w.alloc (.map #[] 0)) g []:=by subst hg;exact MapAt.made P K w
theorem emitsN_any (F:Nat→Prop) (d:Nat) (p:Pr) (row:List Value) (w:World) (h:PrAt F d w row p) (hF:∀ k,F k→k<w.heap.size) (hd:d≤900) (hbig:p.params.length≤1000000) (hL:(emitsP d p).length≤1000000) (hok:∀ s∈emitsP d p,okS s) :
  Calls Tryz.prog 36 #[.agg row.toArray] w fun e w'=>∃ A n c,e=.returned (.slice A n c)∧LsAt (fun k=>w.heap.size≤k) w' 1 SRow A n c (putsB [] (emitsP d p))∧Below w.heap.size w w':=by
 refine(emits_any F d p row w h hF hd hbig hL).mono ?_
 rintro e w' ⟨A,c,rfl,hown,hb⟩
 refine⟨A,_,c,rfl,?_,hb⟩
 have e1:(setL (emitsP d p)).map encStr=(putsB [] (emitsP d p)).map Value.string:=by
  rw[setL_puts,List.map_map]
  exact List.map_congr_left fun s _=>by simp[encStr]
 rw[e1] at hown
 exact ls_strs hown (by rw[setL_puts,List.length_map]) (fun s hs=>hok s (by rcases (mem_putsB _ _ _).1 hs with h|h;exact h;cases h)) fun k hk _=>hk
def putV (V:ByteArray→Option Addr×Nat×Nat) (x:ByteArray) (v:Option Addr×Nat×Nat):ByteArray→Option Addr×Nat×Nat:=fun y=>if y=x then v else V y
theorem stpE_snoc {V:ByteArray→Option Addr×Nat×Nat} {M:List Stp} {s:Stp} {v:Option Addr×Nat×Nat} (h:s.name ∉ M.map Stp.name):stpE (putV V s.name v) (M++[s])=stpE V M++[(s.name,.agg #[.string s.name,.string s.src,.slice v.1 v.2.1 v.2.2])]:=by
 unfold stpE
 rw[List.map_append]
 congr 1
 ·refine List.map_congr_left fun t ht=>?_
  have hne:t.name≠s.name:=fun e=>h (e▸List.mem_map_of_mem (f:=Stp.name) ht)
  simp only[stpV,putV,if_neg hne]
 ·simp[stpV,putV]
theorem ent_look (V:ByteArray→Option Addr×Nat×Nat) (M:List Stp) (x:ByteArray):∃ s0 s1 A n c,(ent (stpE V M) x).getD stp0=.agg #[.string s0,.string s1,.slice A n c]∧(ent (stpE V M) x).isSome=decide (x∈M.map Stp.name):=by
 rw[stp_ent]
 by_cases hx:x∈M.map Stp.name
 ·rw[if_pos hx];exact⟨_,_,_,_,_,rfl,by simp[hx]⟩
 ·rw[if_neg hx];exact⟨_,_,_,_,_,rfl,by simp[hx]⟩
def EmsAt (F:Nat→Prop) (w:World) (V:ByteArray→Option Addr×Nat×Nat) (M:List Stp):Prop:=∀ s∈M,okS s.src∧LsAt F w 1 SRow (V s.name).1 (V s.name).2.1 (V s.name).2.2 s.ems
theorem EmsAt.kept {F:Nat→Prop} {w w':World} {V:ByteArray→Option Addr×Nat×Nat} {M:List Stp} (h:EmsAt F w V M) (hk:Kept F w w'):EmsAt F w' V M:=fun s hs=>⟨(h s hs).1,(h s hs).2.kept hk⟩
theorem EmsAt.snoc {F:Nat→Prop} {w:World} {V:ByteArray→Option Addr×Nat×Nat} {M:List Stp} {s:Stp} {A:Option Addr} {n c:Nat} (h:EmsAt F w V M) (hs:s.name ∉ M.map Stp.name) (ho:okS s.src) (hl:LsAt F w 1 SRow A n c s.ems):EmsAt F w (putV V s.name (A,n,c)) (M++[s]):=by
 intro t ht
 rcases List.mem_append.1 ht with ht|ht
 ·have hne:t.name≠s.name:=fun e=>hs (e▸List.mem_map_of_mem (f:=Stp.name) ht)
  simp only[putV,if_neg hne]
  exact h t ht
 ·simp at ht
  subst ht
  simp only[putV,if_true]
  exact⟨ho,hl⟩
def NetIs (w:World) (M:List Stp) (e:Ending) (w':World):Prop:=∃ b,e=.returned (.map (some b))∧NetAt w'.heap.size w' b M∧Below w.heap.size w w'
theorem of_any (F:Nat→Prop) (d:Nat) (A0 A1 A2 A3 A:Option Addr) (n0 n1 n2 n3 n c0 c1 c2 c3 c:Nat) (ps:List Pr) (w:World) (h:LsAt F w 6 (PrAt F d w) A n c ps) (hF:∀ k,F k→k<w.heap.size) (hd:d≤900) (hn:n≤100)
  (hps:∀ p∈ps,p.params.length≤1000000∧(emitsP d p).length≤1000000∧∀ s∈emitsP d p,okS s) :
  Calls Tryz.prog 23 #[.agg #[.slice A0 n0 c0,.slice A1 n1 c1,.slice A2 n2 c2,.slice A3 n3 c3,.slice A n c]] w (NetIs w (netOf (ps.map (stpOf d)))):=by
 have hmm:=@run_makeMap Tryz.prog
 have hlen:=h.len
 have Hl:=Lhd (fun W (hW:Below w.heap.size w W)=>(h.conv (Kept.of_below hW) (fun _ _ _ h=>h) (fun _ _ _ hx=>PrAt.below hx hW):LsAt F W 6 (PrAt F d W) A n c ps))
 have Hlen:=Lhd hlen
 clear h hlen
 have hz0:w.heap.size+1<w.heap.size+2:=by omega
 go_enter Tryz.func23,Tryz.ntmps23
 go_wp2
 go_loopw [12] (fun i wr=>∃ (k:Nat) (V:ByteArray→Option Addr×Nat×Nat),k≤n∧i=.int .i64 k∧MapAt Tryz.prog 9 wr (w.heap.size+1) (stpE V (netOf ((ps.map (stpOf d)).take k)))∧EmsAt (fun j=>j≠w.heap.size+1) wr V (netOf ((ps.map (stpOf d)).take k))∧Below w.heap.size w wr) (fun i _=>n-(intOf i).toNat)
 case atStart=>exact⟨0,fun _=>(none,0,0),Nat.zero_le _,rfl,(mapMade (by simp):MapAt _ _ _ _ []),fun s hs=>absurd hs (by simp[netOf]),((Below.refl _ _).alloc (Nat.le_refl _) _).alloc (by simp) _⟩
 case round =>
  obtain⟨k,V,hk,rfl,hM,hE,hb⟩:=hrel
  by_cases hlt:k<n
  ·obtain⟨b,o,r,p,rfl,hbl,hFb,hx,hrl,hp,hc⟩:=(Hl.out wr hb).get hlt
   have Hp:=Lhd hp
   obtain⟨okn,oks,okp,okf,Ap,np,cp,Ab,nb,cb,rfl,_,_⟩:=hp
   have z0:=hc 0 _ rfl;have z1:=hc 1 _ rfl;have z2:=hc 2 _ rfl;have z3:=hc 3 _ rfl;have z4:=hc 4 _ rfl;have z5:=hc 5 _ rfl
   rw[Nat.add_zero] at z0
   have Hx:=Lhd hx
   have Htk:=Lhd (netOf_take (ps:=ps.map (stpOf d)) (k:=k) (s:=stpOf d p) (by rw[List.getElem?_map,hx];rfl))
   have Hps:=Lhd (hps p (List.mem_of_getElem? hx))
   have hnd:=netOf_nodup ((ps.map (stpOf d)).take k)
   have hfew:=Nat.le_trans (netOf_length ((ps.map (stpOf d)).take k)) (by rw[List.length_take];exact Nat.min_le_left _ _)
   generalize netOf ((ps.map (stpOf d)).take k)=M at *
   obtain⟨s0,s1,A9,n9,c9,hv1,hv2⟩:=ent_look V M p.name
   have Hv1:=Lhd hv1
   have Hv2:=Lhd hv2
   have hml:=hM.lt
   clear hc hx hv1 hv2 hrl
   by_cases hin:p.name∈M.map Stp.name
   ·have Hadd:Hid (addStp M (stpOf d p)=M):=Lhd (if_pos hin)
    have Hd:=Lhd (show decide (p.name∈M.map Stp.name)=true by simpa using hin)
    clear hin
    go_wp2_with (at_lookup;refine wpList_lookB_ok rfl rfl Tryz.underlying9 Tryz.underlying68 (zeroStp _) rfl (hM.alloc _) rfl okn ?_;rw[Hv1.out,Hv2.out,Hd.out])
    go_roundw
    case rel=>exact⟨k+1,V,by omega,by go_num,by rw[Htk.out,Hadd.out];exact(hM.alloc _).alloc _,by rw[Htk.out,Hadd.out];exact hE.kept (Kept.of_below (((Below.refl _ _).alloc (Nat.le_refl _) _).alloc (by simp) _)),(hb.alloc hb.size _).alloc (by have:=hb.size;simp;omega) _⟩
    case measure=>simp[intOf];omega
   ·have Hadd:Hid (addStp M (stpOf d p)=M++[stpOf d p]):=Lhd (if_neg hin)
    have Hd:=Lhd (show decide (p.name∈M.map Stp.name)=false by simpa using hin)
    have Hin:=Lhd hin
    clear hin
    have HE:=Lhd (fun W (hW:Below wr.heap.size wr W)=>emitsN_any F d p _ W (Hp.out.below hW) (fun j hj=>by have:=hF j hj;have:=hb.size;have:=hW.size;omega) hd Hps.out.1 Hps.out.2.1 Hps.out.2.2)
    have HP:=Lhd (fun W (hW:Below wr.heap.size wr W) (v:Value)=>(hM.below hW).put Tryz.underlying9 Tryz.underlying68 (by unfold stpE;rw[List.length_map];omega) okn (by rw[stpE_keys];exact Hin.out) v)
    go_wp2_with (at_lookup;refine wpList_lookB_ok rfl rfl Tryz.underlying9 Tryz.underlying68 (zeroStp _) rfl (hM.alloc _) rfl okn ?_;rw[Hv1.out,Hv2.out,Hd.out])
    have hba:Below wr.heap.size wr (((wr.alloc (.cells #[.string p.name,.string p.src,.string p.part,.int .i64 p.fuel,.slice Ap np cp,.slice Ab nb cb] 46)).alloc (.cells #[.string s0,.string s1,.slice A9 n9 c9] 73)).drew):=(((Below.refl _ _).alloc (Nat.le_refl _) _).alloc (by simp) _).drew
    have Hba:=Lhd hba
    clear hba
    have HK:=Lhd (fun W (hW:Below (((wr.alloc (.cells #[.string p.name,.string p.src,.string p.part,.int .i64 p.fuel,.slice Ap np cp,.slice Ab nb cb] 46)).alloc (.cells #[.string s0,.string s1,.slice A9 n9 c9] 73)).drew).heap.size (((wr.alloc (.cells #[.string p.name,.string p.src,.string p.part,.int .i64 p.fuel,.slice Ap np cp,.slice Ab nb cb] 46)).alloc (.cells #[.string s0,.string s1,.slice A9 n9 c9] 73)).drew) W) =>
     let hk:IsBlk W wr.heap.size 46 #[.string p.name,.string p.src,.string p.part,.int .i64 p.fuel,.slice Ap np cp,.slice Ab nb cb]:=IsBlk.as_was (IsBlk.alloc (IsBlk.laid wr 46 _) _) (hW.block _ (by simp[World.drew];omega))
     (⟨hk.cell 0,hk.cell 1,hk.cell 2,hk.cell 3,hk.cell 4,hk.cell 5⟩:W.cell? ⟨wr.heap.size,0,none⟩=some (.string p.name)∧W.cell? ⟨wr.heap.size,1,none⟩=some (.string p.src)∧W.cell? ⟨wr.heap.size,2,none⟩=some (.string p.part)∧W.cell? ⟨wr.heap.size,3,none⟩=some (.int .i64 p.fuel)∧W.cell? ⟨wr.heap.size,4,none⟩=some (.slice Ap np cp)∧W.cell? ⟨wr.heap.size,5,none⟩=some (.slice Ab nb cb)))
    have HKB:=Lhd (fun (w4 W:World) (hs:wr.heap.size<w4.heap.size) (hB:But (fun k=>k=w.heap.size+1) w4 W) (h:w4.cell? ⟨wr.heap.size,0,none⟩=some (.string p.name)∧w4.cell? ⟨wr.heap.size,1,none⟩=some (.string p.src)∧w4.cell? ⟨wr.heap.size,2,none⟩=some (.string p.part)∧w4.cell? ⟨wr.heap.size,3,none⟩=some (.int .i64 p.fuel)∧w4.cell? ⟨wr.heap.size,4,none⟩=some (.slice Ap np cp)∧w4.cell? ⟨wr.heap.size,5,none⟩=some (.slice Ab nb cb)) =>
     have hne:¬ (wr.heap.size=w.heap.size+1):=by omega
     (⟨(hB.cell (p:=⟨wr.heap.size,0,none⟩) hs hne).trans h.1,(hB.cell (p:=⟨wr.heap.size,1,none⟩) hs hne).trans h.2.1,(hB.cell (p:=⟨wr.heap.size,2,none⟩) hs hne).trans h.2.2.1,(hB.cell (p:=⟨wr.heap.size,3,none⟩) hs hne).trans h.2.2.2.1,(hB.cell (p:=⟨wr.heap.size,4,none⟩) hs hne).trans h.2.2.2.2.1,(hB.cell (p:=⟨wr.heap.size,5,none⟩) hs hne).trans h.2.2.2.2.2⟩:W.cell? ⟨wr.heap.size,0,none⟩=some (.string p.name)∧W.cell? ⟨wr.heap.size,1,none⟩=some (.string p.src)∧W.cell? ⟨wr.heap.size,2,none⟩=some (.string p.part)∧W.cell? ⟨wr.heap.size,3,none⟩=some (.int .i64 p.fuel)∧W.cell? ⟨wr.heap.size,4,none⟩=some (.slice Ap np cp)∧W.cell? ⟨wr.heap.size,5,none⟩=some (.slice Ab nb cb)))
    have sA:=HK.out _ (Below.refl _ _)
    go_region_held3 (fun W=>W.cell? ⟨wr.heap.size,0,none⟩=some (.string p.name)∧W.cell? ⟨wr.heap.size,1,none⟩=some (.string p.src)∧W.cell? ⟨wr.heap.size,2,none⟩=some (.string p.part)∧W.cell? ⟨wr.heap.size,3,none⟩=some (.int .i64 p.fuel)∧W.cell? ⟨wr.heap.size,4,none⟩=some (.slice Ap np cp)∧W.cell? ⟨wr.heap.size,5,none⟩=some (.slice Ab nb cb)) (first|with_reducible exact sA|with_reducible exact sB|with_reducible exact sC) (first
     | (go_at_call 36;refine(HE.out _ Hba.out).mono ?_;rintro e4 w4 ⟨A4,n4,c4,rfl,hL4,hb4⟩;have hb14:=Hba.out.trans (hb4.mono Hba.out.size);have sB:=HK.out w4 hb4;obtain⟨w5,hr5,hM5,hB5⟩:=HP.out w4 hb14 (.agg #[.string p.name,.string p.src,.slice A4 n4 c4]);have sC:=HKB.out w4 w5 (by (have:=hb4.size;simp[World.drew] at this;omega)) hB5 sB))
    all_goals
     clear hr5
     go_wp2
     go_roundw
     case rel =>
      refine⟨k+1,putV V p.name (A4,n4,c4),by omega,by go_num,?_,?_,?_⟩
      ·rw[Htk.out,Hadd.out]
       have e:=stpE_snoc (V:=V) (s:=stpOf d p) (v:=(A4,n4,c4)) Hin.out
       exact e▸hM5
      ·rw[Htk.out,Hadd.out]
       refine EmsAt.snoc ?_ Hin.out oks ?_
       ·exact hE.kept ((Kept.of_below hb14).trans (Kept.of_but hB5 fun _ h=>h))
       ·exact(hL4.conv (Kept.refl _ _) (fun a _ _ ha=>by have:=Hba.out.size;show a.block≠_;omega) fun _ _ _ h=>h).kept (Kept.of_but hB5 fun _ h=>h)
      ·exact hb.trans (((But.of_below hb14:But (fun j=>j=w.heap.size+1) wr w4).trans' hB5).below' hb.size (fun i hi=>by subst hi;omega))
     case measure=>simp[intOf];omega
  ·obtain rfl:k=n:=by omega
   go_wp2
   go_ret
   have hlen:=Hlen.out
   rw[List.take_of_length_le (by simp;omega)] at hM hE
   refine⟨_,rfl,⟨netOf_nodup _,?_,hM.lt,Nat.le_refl _,V,hM,fun s hs=>?_⟩,hb⟩
   ·have:=netOf_length (ps.map (stpOf d));rw[List.length_map] at this;omega
   ·refine⟨(hE s hs).1,(hE s hs).2.conv (Kept.refl _ _) (fun a ha h0 _=>(hE s hs).2.lt h0 a ha) fun _ _ _ h=>h⟩
def knE (M:List Stp) (K:List ByteArray):List (ByteArray×Value):=K.map fun x=>(x,.int .i64 (rkM M x:Int))
theorem knE_keys (M:List Stp) (K:List ByteArray):(knE M K).map (·.1)=K:=by unfold knE;rw[List.map_map];exact List.map_id _
theorem knE_snoc (M:List Stp) (K:List ByteArray) (x:ByteArray):knE M (K++[x])=knE M K++[(x,.int .i64 (rkM M x:Int))]:=by unfold knE;rw[List.map_append];rfl
theorem ent_knE (M:List Stp) (K:List ByteArray) (x:ByteArray):(ent (knE M K) x).isSome=decide (x∈K)∧(x∈K→(ent (knE M K) x).getD (.int .i64 0)=.int .i64 (rkM M x:Int))∧(x ∉ K→(ent (knE M K) x).getD (.int .i64 0)=.int .i64 0):=by
 by_cases hx:x∈K
 ·have h:(x,Value.int .i64 (rkM M x:Int))∈knE M K:=List.mem_map.2 ⟨x,hx,rfl⟩
  cases he:ent (knE M K) x with
  | none=>exact absurd (ent_none.1 he) (by rw[knE_keys];simpa using hx)
  | some v =>
   obtain⟨y,_,e⟩:=List.mem_map.1 (ent_mem he)
   injection e with e1 e2
   subst e1 e2
   simp[hx]
 ·have he:ent (knE M K) x=none:=ent_none.2 (by rw[knE_keys];exact hx)
  rw[he];simp[hx]
theorem zeroInt (w:World):(zeroValue 3).run Tryz.prog w=.ok (.int .i64 0) w:=by kernel_rfl
structure Known (M:List Stp) (K K':List ByteArray) (top:ByteArray→Prop):Prop where
 sub:∀ y∈K,y∈K'
 names:∀ y∈K',y∈M.map Stp.name
 new:∀ y∈K',y∈K∨top y
theorem Known.refl {M:List Stp} {K:List ByteArray} {top:ByteArray→Prop} (h:∀ y∈K,y∈M.map Stp.name):Known M K K top:=⟨fun _ h=>h,h,fun _ h=>.inl h⟩
theorem Known.trans {M:List Stp} {K K' K2:List ByteArray} {top top':ByteArray→Prop} (h:Known M K K' top) (k:Known M K' K2 top') (ht:∀ y,top' y→top y):Known M K K2 top :=
 ⟨fun y hy=>k.sub y (h.sub y hy),k.names,fun y hy=>by rcases k.new y hy with h1|h1;exact h.new y h1;exact .inr (ht y h1)⟩
theorem Known.few {M:List Stp} {K K':List ByteArray} {top:ByteArray→Prop} (h:Known M K K' top) (hn:K'.Nodup):K'.length≤M.length:=by
 have:=List.Nodup.length_le_of_subset hn h.names
 rwa [List.length_map] at this
def RankIs (M:List Stp) (kb:Nat) (K:List ByteArray) (x:ByteArray) (w:World) (e:Ending) (w':World):Prop :=
 e=.returned (.int .i64 (rkM M x:Int))∧∃ K',MapAt Tryz.prog 9 w' kb (knE M K')∧Known M K K' (fun y=>hgt M y≤hgt M x)∧But (fun k=>k=kb) w w'
theorem fold_take {l:List ByteArray} {k:Nat} {y:ByteArray} {f:ByteArray→Nat} (h:l[k]?=some y):(l.take (k+1)).foldl (fun r x=>max r (f x+1)) 0=max ((l.take k).foldl (fun r x=>max r (f x+1)) 0) (f y+1):=by
 obtain⟨hk,rfl⟩:=List.getElem?_eq_some_iff.1 h
 rw[List.take_succ_eq_append_getElem hk,List.foldl_append]
 rfl
theorem rank_any (n0:Nat) (b:Nat) (M:List Stp) (hr:¬ RoundP M) (h:Nat):∀ (x:ByteArray) (kb:Nat) (K:List ByteArray) (w:World),hgt M x<h→x∈M.map Stp.name→NetAt n0 w b M→n0≤kb→MapAt Tryz.prog 9 w kb (knE M K)→(∀ y∈K,y∈M.map Stp.name) →
  Calls Tryz.prog 31 #[.map (some b),.string x,.map (some kb)] w (RankIs M kb K x w):=by
 induction h with
 | zero=>intro x kb K w h0;omega
 | succ h ih =>
  intro x kb K w hh hx hN hkb hM hK
  have hone:=hN.once
  have hfew:=hN.few
  have hn0:=hN.le
  have hbn:=hN.lt
  have hgo:=hgt_ok hone hr
  have hrx:∀ y,y∈M.map Stp.name→rkM M y≤M.length:=fun y hy=>Nat.le_trans (rk_le hgo _ y hy) (hgt_le M y)
  obtain⟨hsm,hsn⟩:=stp_mem hx
  have okx:okS x:=by rw[← hsn];exact hN.names _ hsm
  have hre:rkM M x=rankF M (rkM M) (stp M x):=by have:=rkM_eq hgo (hgt_le M) hone hsm;rwa [hsn] at this
  have hlow:(stp M x).src≠ByteArray.empty→∀ y∈emitN M [(stp M x).src],hgt M y<hgt M x:=fun hs y hy=>by have:=hgo _ hsm hs y hy;rwa [hsn] at this
  have hkl:=hM.lt
  obtain⟨e1,e2,e3⟩:=ent_knE M K x
  by_cases hin:x∈K
  ·have E2:=Lhd (e2 hin)
   have E1:=Lhd (show (ent (knE M K) x).isSome=true by rw[e1];simpa using hin)
   clear e1 e2 e3 hin hre hlow hrx
   have Hr:=Lhd hr
   clear hr
   go_enter Tryz.func31,Tryz.ntmps31
   go_wp2_with (at_lookup;refine wpList_lookB_ok rfl rfl Tryz.underlying9 Tryz.underlying76 (zeroInt _) rfl hM rfl okx ?_;rw[E1.out,E2.out])
   go_ret
   exact⟨rfl,K,hM,Known.refl hK,But.refl _ _⟩
  ·have E3:=Lhd (e3 hin)
   have E1:=Lhd (show (ent (knE M K) x).isSome=false by rw[e1];simpa using hin)
   have Hin:=Lhd hin
   clear e1 e2 e3 hin
   obtain⟨V,s0,A2,n2,c2,hNm,hv1,_,oks,hL2⟩:=hN.look x
   have Hv1:=Lhd hv1
   have hfd:=fieldSrc
   clear hv1 hL2
   by_cases hs:(stp M x).src=ByteArray.empty
   ·have H0:=Lhd (show rkM M x=0 by rw[hre];exact if_pos hs)
    have hs2:(ByteArray.empty.toList !=ByteArray.toList { data:=#[] })=false:=by decide +kernel
    have Hs:=Lhd hs
    clear hs hre hlow hrx
    have hklen:(knE M K).length<1000000:=by
     have h1:=List.Nodup.length_le_of_subset (by have:=hM.once;rwa [knE_keys] at this) hK
     unfold knE;rw[List.length_map];rw[List.length_map] at h1;omega
    have hkey:x ∉ (knE M K).map (·.1):=by rw[knE_keys];exact Hin.out
    have Hr:=Lhd hr
    clear hr
    go_enter Tryz.func31,Tryz.ntmps31
    go_wp2_with (first
     | (at_lookup;refine wpList_lookB_ok rfl rfl Tryz.underlying9 Tryz.underlying76 (zeroInt _) rfl hM rfl okx ?_;rw[E1.out,E3.out])
     | (at_lookup;refine wpList_lookB rfl rfl Tryz.underlying9 Tryz.underlying68 (zeroStp _) rfl hNm rfl okx ?_;rw[Hv1.out,Hs.out])
     | (at_mapUpdate;refine wpList_putB rfl rfl Tryz.underlying9 Tryz.underlying76 hklen rfl hM rfl okx hkey rfl ?_;intro w1 hM1 hB1))
    go_ret
    refine⟨by rw[H0.out];rfl,K++[x],by rw[knE_snoc,H0.out];exact hM1,⟨fun y hy=>by simp[hy],fun y hy=>?_,fun y hy=>?_⟩,hB1⟩
    ·rcases List.mem_append.1 hy with hy|hy
     ·exact hK y hy
     ·simp at hy;subst hy;exact hx
    ·rcases List.mem_append.1 hy with hy|hy
     ·exact .inl hy
     ·simp at hy;subst hy;exact .inr (Nat.le_refl _)
   ·have hs2:=not_empty hs
    have Hre:=Lhd (show rkM M x=(emitN M [(stp M x).src]).foldl (fun r x=>max r (rkM M x+1)) 0 by rw[hre];exact if_neg hs)
    have Hlow:=Lhd (hlow hs)
    have Hrx:=Lhd hrx
    have Hr:=Lhd hr
    have hb1:Below w.heap.size w (w.alloc (.cells #[.string (stp M x).src] 9)):=(Below.refl _ _).alloc (Nat.le_refl _) _
    have Hem:=Lhd (emitters_any n0 _ b M _ _ _ _ [(stp M x).src] (hN.later hb1) (strs_one 9 (stp M x).src rfl oks))
    have Hsub:=Lhd (fun y (hy:y∈emitN M [(stp M x).src])=>(namesN_sub hy:y∈M.map Stp.name))
    have Hln:=Lhd (namesN_length M (emitB [(stp M x).src]))
    have Hokl:=Lhd (fun y (hy:y∈emitN M [(stp M x).src])=>hN.names_ok (p:=emitB [(stp M x).src]) y hy)
    have HN:=Lhd (fun W (hW:Below n0 w W)=>hN.below hW)
    have Hone:=Lhd hone
    have Hih:=Lhd ih
    change Hid ((emitN M [(stp M x).src]).length≤M.length) at Hln
    clear hs hre hlow hrx hr ih hN hone hgo hsm hsn
    generalize hl:emitN M [(stp M x).src]=l at *
    clear hl
    have hll:=Hln.out
    go_enter Tryz.func31,Tryz.ntmps31
    go_wp2_with (first
     | (at_lookup;refine wpList_lookB_ok rfl rfl Tryz.underlying9 Tryz.underlying76 (zeroInt _) rfl hM rfl okx ?_;rw[E1.out,E3.out])
     | (at_lookup;refine wpList_lookB rfl rfl Tryz.underlying9 Tryz.underlying68 (zeroStp _) rfl hNm rfl okx ?_;rw[Hv1.out])
     | (go_at_call 24;refine Hem.out.mono ?_;rintro e w2 ⟨A3,c3,rfl,hown3,hb2⟩;have hbw2:Below w.heap.size w w2:=hb1.trans (hb2.mono hb1.size);have Hl3:=Lhd (ls_strs (F:=fun k=>w.heap.size≤k) (own_base hown3 hb1.size) rfl Hokl.out (fun _ hk _=>hk));have hM2:=hM.below hbw2;clear hown3))
    go_loopw [9,32] (fun r i wr=>∃ (k v:Nat) (K':List ByteArray),k≤l.length∧i=.int .i64 k∧r=.int .i64 (v:Int)∧Hid (v=(l.take k).foldl (fun r x=>max r (rkM M x+1)) 0)∧MapAt Tryz.prog 9 wr kb (knE M K')∧Hid (Known M K K' (fun y=>hgt M y<hgt M x))∧But (fun k=>k=kb) w2 wr) (fun _ i _=>l.length-(intOf i).toNat)
    case atStart=>exact⟨0,0,K,Nat.zero_le _,rfl,rfl,Lhd rfl,hM2,Lhd (Known.refl hK),But.refl _ _⟩
    case round =>
     obtain⟨k,v,K',hk,rfl,rfl,Hv,hM',Hkn,hB⟩:=hrel
     have hbw:But (fun k=>k=kb) w wr:=(But.of_below hbw2).trans' hB
     have hvle:v≤1001:=by
      rw[Hv.out]
      refine fold_le (fun y hy=>?_) 0 (Nat.zero_le _)
      have:=Hrx.out y (Hsub.out y (List.mem_of_mem_take hy))
      omega
     by_cases hlt:k<l.length
     ·obtain⟨b',o,y,rfl,hbl,hy,oky,hc0⟩:=strAt (Hl3.out.kept (Kept.of_but hB (fun j hj e=>by have e':j=kb:=e;have hj':w.heap.size≤j:=hj;omega))) hlt
      have hym:=List.mem_of_getElem? hy
      have Hy:=Lhd hy
      have Hft:=Lhd (fold_take (f:=rkM M) hy)
      have hry:=Hrx.out y (Hsub.out y hym)
      have Hhy:=Lhd (Hlow.out y hym)
      have Hc:=Lhd (Hih.out y kb K' wr (by have:=Hhy.out;omega) (Hsub.out y hym) (HN.out wr (hbw.below' hn0 (fun i hi=>by subst hi;exact hkb))) hkb hM' Hkn.out.names)
      clear hy hym
      obtain⟨z,Hz⟩:∃ z,Hid (rkM M y=z):=⟨_,rfl⟩
      unfold RankIs at Hc
      rw[Hz.out] at Hc hry Hft
      rw[← Hv.out] at Hft
      go_wp2_with (go_at_call 31;refine Hc.out.mono ?_;rintro e w3 ⟨rfl,K2,hM3,hkn3,hB3⟩;have Hkn3:=Lhd hkn3;clear hkn3)
      go_roundw
      case rel=>exact⟨k+1,max v (z+1),K2,by omega,by go_num,by go_num,Lhd Hft.out.symm,hM3,Lhd (Hkn.out.trans Hkn3.out (fun j hj=>by have:=Hhy.out;omega)),hB.trans' hB3⟩
      case measure=>simp[intOf];omega
     ·have Hke:=Lhd (show k=l.length by omega)
      have hklen:(knE M K').length<1000000:=by
       have h1:=Hkn.out.few (by have:=hM'.once;rwa [knE_keys] at this)
       unfold knE;rw[List.length_map];omega
      have hkey:x ∉ (knE M K').map (·.1):=by
       rw[knE_keys]
       intro hx'
       rcases Hkn.out.new x hx' with h1|h1
       ·exact Hin.out h1
       ·exact absurd h1 (Nat.lt_irrefl _)
      go_wp2_with (at_mapUpdate;refine wpList_putB rfl rfl Tryz.underlying9 Tryz.underlying76 hklen rfl hM' rfl okx hkey rfl ?_;intro w1 hM1 hB1)
      go_ret
      have hv:v=rkM M x:=by rw[Hre.out,Hv.out,Hke.out,List.take_length]
      subst hv
      refine⟨rfl,K'++[x],by rw[knE_snoc];exact hM1,⟨fun y hy=>by simp[Hkn.out.sub y hy],fun y hy=>?_,fun y hy=>?_⟩,hbw.trans' hB1⟩
      ·rcases List.mem_append.1 hy with hy|hy
       ·exact Hkn.out.names y hy
       ·simp at hy;subst hy;exact hx
      ·rcases List.mem_append.1 hy with hy|hy
       ·rcases Hkn.out.new y hy with h1|h1
        ·exact .inl h1
        ·exact .inr (Nat.le_of_lt h1)
       ·simp at hy;subst hy;exact .inr (Nat.le_refl _)
def cmpI (a b:Int):Int:=if a<b then -1 else if b<a then 1 else 0
def cmpT (a b:ByteArray):Int:=if Op.bytesLess a.toList b.toList then -1 else if a.toList==b.toList then 0 else 1
def orI (a b:Int):Int:=if a=0 then b else a
def cmpR (ρ:ByteArray→Nat) (a b:ByteArray):Int:=orI (cmpI (ρ a) (ρ b)) (cmpT a b)
theorem blessT (x y:ByteArray):Op.bytesLess x.toList y.toList=decide (x.data.toList<y.data.toList):=by
 rw[bytesLess_eq,ByteArray.toList_eq,ByteArray.toList_eq]
theorem cmpR_neg {ρ:ByteArray→Nat} {a b:ByteArray} (h:cmpR ρ a b<0):leR ρ a b:=by
 unfold cmpR orI cmpI cmpT at h
 rw[blessT] at h
 unfold leR
 by_cases h1:ρ a<ρ b
 ·exact .inl h1
 ·by_cases h2:ρ b<ρ a
  ·have e1:¬ ((ρ a:Int)<(ρ b:Int)):=by omega
   have e2:(ρ b:Int)<(ρ a:Int):=by omega
   rw[if_neg e1,if_pos e2] at h
   simp at h
  ·have e1:¬ ((ρ a:Int)<(ρ b:Int)):=by omega
   have e2:¬ ((ρ b:Int)<(ρ a:Int)):=by omega
   rw[if_neg e1,if_neg e2,if_pos rfl] at h
   refine .inr ⟨by omega,?_⟩
   by_cases h3:a.data.toList<b.data.toList
   ·exact List.le_of_lt h3
   ·simp only[h3,decide_false,Bool.false_eq_true,if_false] at h
    split at h<;>omega
theorem cmpR_pos {ρ:ByteArray→Nat} {a b:ByteArray} (h:¬ cmpR ρ a b<0):leR ρ b a:=by
 unfold cmpR orI cmpI cmpT at h
 rw[blessT] at h
 unfold leR
 by_cases h1:ρ b<ρ a
 ·exact .inl h1
 ·by_cases h2:ρ a<ρ b
  ·have e2:(ρ a:Int)<(ρ b:Int):=by omega
   rw[if_pos e2] at h
   simp at h
  ·have e1:¬ ((ρ a:Int)<(ρ b:Int)):=by omega
   have e2:¬ ((ρ b:Int)<(ρ a:Int)):=by omega
   rw[if_neg e1,if_neg e2,if_pos rfl] at h
   refine .inr ⟨by omega,?_⟩
   by_cases h3:a.data.toList<b.data.toList
   ·simp[h3] at h
   ·exact List.not_lt.1 h3
theorem leR_trans {ρ:ByteArray→Nat} {a b c:ByteArray} (h:leR ρ a b) (k:leR ρ b c):leR ρ a c:=by
 unfold leR at *
 rcases h with h|⟨h,h2⟩<;>rcases k with k|⟨k,k2⟩
 ·exact .inl (by omega)
 ·exact .inl (by omega)
 ·exact .inl (by omega)
 ·exact .inr ⟨by omega,List.le_trans h2 k2⟩
theorem compareI_any (a b:Int) (w:World) :
  Calls Tryz.prog 51 #[.int .i64 a,.int .i64 b] w fun e w'=>e=.returned (.int .i64 (cmpI a b))∧w=w':=by
 go_enter Tryz.func51,Tryz.ntmps51
 go_wp2
 all_goals (go_ret;refine⟨ret_int ?_,rfl⟩;unfold cmpI;split<;>(try split)<;>(first|rfl|omega))
theorem compareT_any (a b:ByteArray) (w:World) :
  Calls Tryz.prog 52 #[.string a,.string b] w fun e w'=>e=.returned (.int .i64 (cmpT a b))∧w=w':=by
 go_enter Tryz.func52,Tryz.ntmps52
 go_wp2
 all_goals (go_ret;simp_all [cmpT])
theorem orI_any (g:Nat) (a b:Int) (w:World) (h0:w.cell? ⟨g,0,none⟩=some (.int .i64 a)) (h1:w.cell? ⟨g,1,none⟩=some (.int .i64 b)) :
  Calls Tryz.prog 50 #[.slice (some ⟨g,0,none⟩) 2 2] w fun e w'=>e=.returned (.int .i64 (orI a b))∧w=w':=by
 by_cases ha:a=0
 ·have ha2:(a !=0)=false:=by simp[ha]
  have Ho:Hid (orI a b=b):=Lhd (if_pos ha)
  by_cases hb:b=0
  ·have hb2:(b !=0)=false:=by simp[hb]
   have Hb:=Lhd hb
   clear ha hb
   go_enter Tryz.func50,Tryz.ntmps50
   go_wp2
   go_loop [8] (fun i=>i=.int .i64 0∨i=.int .i64 1∨i=.int .i64 2) (fun i=>2-(intOf i).toNat)
   case atStart=>exact .inl rfl
   case round =>
    rcases hrel with rfl|rfl|rfl
    ·go_wp2
     go_round
     case rel=>exact .inr (.inl rfl)
     case measure=>simp[intOf]
    ·go_wp2
     go_round
     case rel=>exact .inr (.inr rfl)
     case measure=>simp[intOf]
    ·go_wp2
     go_ret
     exact⟨by rw[Ho.out,Hb.out];rfl,rfl⟩
  ·have hb2:(b !=0)=true:=by simpa using hb
   clear ha hb
   go_enter Tryz.func50,Tryz.ntmps50
   go_wp2
   go_loop [8] (fun i=>i=.int .i64 0∨i=.int .i64 1) (fun i=>2-(intOf i).toNat)
   case atStart=>exact .inl rfl
   case round =>
    rcases hrel with rfl|rfl
    ·go_wp2
     go_round
     case rel=>exact .inr rfl
     case measure=>simp[intOf]
    ·go_wp2
     go_ret
     exact⟨by rw[Ho.out];rfl,rfl⟩
 ·have ha2:(a !=0)=true:=by simpa using ha
  have Ho:Hid (orI a b=a):=Lhd (if_neg ha)
  clear ha
  go_enter Tryz.func50,Tryz.ntmps50
  go_wp2
  go_loop [8] (fun i=>i=.int .i64 0) (fun i=>2-(intOf i).toNat)
  case atStart=>rfl
  case round =>
   obtain rfl:=hrel
   go_wp2
   go_ret
   exact⟨by rw[Ho.out];rfl,rfl⟩
def KnAt (M:List Stp) (kb:Nat) (w:World):Prop:=∃ K,MapAt Tryz.prog 9 w kb (knE M K)∧∀ y∈K,y∈M.map Stp.name
theorem KnAt.below {M:List Stp} {kb:Nat} {w w':World} (h:KnAt M kb w) (hb:Below w.heap.size w w'):KnAt M kb w':=by obtain⟨K,hm,hs⟩:=h;exact⟨K,hm.below hb,hs⟩
structure Boxes (w:World) (g1 g2 b kb:Nat):Prop where
 one:IsBlk w g1 68 #[.map (some b)]
 two:IsBlk w g2 76 #[.map (some kb)]
 n1:g1≠kb
 n2:g2≠kb
theorem Boxes.but {w w':World} {g1 g2 b kb:Nat} (h:Boxes w g1 g2 b kb) (hb:But (fun k=>k=kb) w w'):Boxes w' g1 g2 b kb :=
 ⟨h.one.as_was (hb.block _ h.one.lt h.n1),h.two.as_was (hb.block _ h.two.lt h.n2),h.n1,h.n2⟩
theorem Boxes.cells {w:World} {g1 g2 b kb:Nat} (h:Boxes w g1 g2 b kb):w.cell? ⟨g1,0,none⟩=some (.map (some b))∧w.cell? ⟨g2,0,none⟩=some (.map (some kb)):=by
 have h1:=h.one.cell 0
 have h2:=h.two.cell 0
 simp at h1 h2
 exact⟨h1,h2⟩
theorem cmpC_any (n0 b kb g1 g2:Nat) (M:List Stp) (hr:¬ RoundP M) (x y:ByteArray) (w:World) (hx:x∈M.map Stp.name) (hy:y∈M.map Stp.name) (hN:NetAt n0 w b M) (hkb:n0≤kb) (hB:Boxes w g1 g2 b kb) (hK:KnAt M kb w) :
    Calls Tryz.prog 49 #[.string x,.string y,.pointer (some ⟨g1,0,none⟩),.pointer (some ⟨g2,0,none⟩)] w fun e w'=>e=.returned (.int .i64 (cmpR (rkM M) x y))∧KnAt M kb w'∧But (fun k=>k=kb) w w':=by
  have hn0:=hN.le
  have HR:=Lhd (fun (z:ByteArray) (hz:z∈M.map Stp.name) (W:World) (hW:But (fun k=>k=kb) w W) (hk:KnAt M kb W) =>
    (let ⟨K,hm,hs⟩:=hk
     (rank_any n0 b M hr (hgt M z+1) z kb K W (Nat.lt_succ_self _) hz (hN.below (hW.below' hn0 (fun i hi=>by have hi':i=kb:=hi;omega))) hkb hm hs).mono
      (fun e w' (h:RankIs M kb K z W e w')=>(⟨h.1,h.2.elim fun K' h'=>⟨⟨K',h'.1,h'.2.1.names⟩,h'.2.2⟩⟩:e=Ending.returned (.int .i64 (rkM M z:Int))∧KnAt M kb w'∧But (fun k=>k=kb) W w'))))
  have HC:=Lhd (fun (W:World) (hW:But (fun k=>k=kb) w W)=>(hB.but hW).cells)
  have HK:=Lhd hK
  have Hx:=Lhd hx
  have Hy:=Lhd hy
  have hd0:But (fun k=>k=kb) w w.drew:=(But.refl _ w).drew
  have sA:=HC.out _ hd0
  have hkd:KnAt M kb w.drew:=by obtain⟨K,hm,hs⟩:=hK;exact⟨K,hm.below (Below.refl _ _).drew,hs⟩
  have Hkd:=Lhd hkd
  have Hd0:=Lhd hd0
  unfold cmpR
  obtain⟨rx,Hrx⟩:∃ r:Nat,Hid (rkM M x=r):=⟨_,rfl⟩
  obtain⟨ry,Hry⟩:∃ r:Nat,Hid (rkM M y=r):=⟨_,rfl⟩
  have H1:=Lhd (HR.out x hx _ hd0 hkd)
  rw[Hrx.out] at H1 ⊢
  rw[Hry.out]
  have tok:True:=trivial
  clear hr hx hy hN hB hK hd0 hkd
  go_enter Tryz.func49,Tryz.ntmps49
  go_wp2
  go_region_held3 (fun W=>W.cell? ⟨g1,0,none⟩=some (.map (some b))∧W.cell? ⟨g2,0,none⟩=some (.map (some kb))) (first|with_reducible exact sA|with_reducible exact sB|with_reducible exact sC|with_reducible exact sD _) (first
    | (go_at_call 31;have _t:=tok;refine H1.out.mono ?_;rintro e w1 ⟨rfl,hk1,hb1⟩;have hw1:=Hd0.out.trans' hb1;have sB:=HC.out w1 hw1;have H2:=Lhd (HR.out y Hy.out w1 hw1 hk1);rw[Hry.out] at H2;clear tok)
    | (go_at_call 31;refine H2.out.mono ?_;rintro e w2 ⟨rfl,hk2,hb2⟩;have hw2:=hw1.trans' hb2;have sC:=HC.out w2 hw2;have sD:=fun o=>HC.out (w2.alloc o) (hw2.alloc o))
    | (go_at_call 51;refine(compareI_any _ _ _).mono ?_;rintro e w3 ⟨rfl,rfl⟩)
    | (go_at_call 52;refine(compareT_any _ _ _).mono ?_;rintro e w3 ⟨rfl,rfl⟩)
    | (go_at_call 50;refine(orI_any _ _ _ _ (by exact(IsBlk.laid _ _ _).cell 0) (by exact(IsBlk.laid _ _ _).cell 1)).mono ?_;rintro e w3 ⟨rfl,rfl⟩))
  all_goals
    go_wp2
    go_ret
    exact⟨rfl,hk2.below ((Below.refl _ _).alloc (Nat.le_refl _) _),hw2.alloc _⟩
end Go.Proofs.YtomfpjgcficlgaaGreat
