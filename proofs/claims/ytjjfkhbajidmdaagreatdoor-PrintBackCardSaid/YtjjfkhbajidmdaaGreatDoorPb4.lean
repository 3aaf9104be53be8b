/- Parts of this proof, one behind the other: SynF, SynG, SynH, SynQ, SynI, SynJ. -/
import Derived.Test.YtjjfkhbajidmdaaGreatDoorPb3
import Derived.Deep.RegionHeld3
import Derived.Test.YtjjfkhbajidmdaaGreatDoorPb2
import Derived.Lib.RowBridge
import Derived.Sort.KeysCollected
import Derived.Test.YtjjfkhbajidmdaaGreatDoorShelfS
import Derived.Sort.OwnSorted
import Derived.RangeFuncNested
import Derived.RangeFuncBound
import Derived.RangeFuncCalls
import Derived.RangeFuncLeaves
import Derived.RangeFuncWrites
import Derived.RangeFuncBox
import Derived.Maps.AppendAt
import Derived.Shelf.Abstract
import Derived.Shelf.RegionOpen
import Derived.OwnWalkIn
import Derived.TacticsInMore
import Derived.LoopNIn
import Derived.LoopIn
import Derived.Deep.Cut
set_option maxRecDepth 1000000
set_option maxHeartbeats 40000000
namespace Go.Proofs.YtjjfkhbajidmdaaGreatDoor
open Go.RowKit Go.Afx
theorem ab6 (n:Int) (s name src:ByteArray) (A:Option Addr) (m c:Nat) (w:World) (Ef:okS name) :
  Calls Tryz.prog 96 #[.agg #[.int .i64 4,.int .i64 n,.string s,.string name,.string src,.slice A m c]] w fun x w'=>x=.returned (.bool (bT 4 n s name src))∧Below w.heap.size w w':=by
 have ha:=fun W=>oL 4 W
 have hr:lM 4=false:=rfl
 rw[hr] at ha
 have Ha:=ae ha
 have Hr:=ae hr
 clear ha hr
 obtain⟨q,hq⟩:∃ q,lN [name]=q:=⟨_,rfl⟩
 have hF:=fun (W:World) (g:Nat) (h:ai (fun _=>True) W 1 dL (some ⟨g,0,none⟩) 1 1 [name])=>fJ _ _ _ _ _ W h
 rw[hq] at hF
 have HF:=ae hF
 have Hq:=ae hq
 clear hF hq
 obtain⟨w1,Hw1⟩:∃ w1,Hid (w1=w.alloc (.cells #[.int .i64 4,.int .i64 n,.string s,.string name,.string src,.slice A m c] 55)):=⟨_,rfl⟩
 obtain⟨w2,Hw2⟩:∃ w2,Hid (w2=w1.alloc (.cells #[.int .i64 0,.int .i64 0,.string { data:=#[] },.string { data:=#[] },.string { data:=#[] },.slice none 0 0] 55)):=⟨_,rfl⟩
 have hx2:af w2 w.heap.size 55 #[.int .i64 4,.int .i64 n,.string s,.string name,.string src,.slice A m c]:=by rw[Hw2.out,Hw1.out];exact(af.laid _ _ _).alloc _
 have hy2:af w2 (w.heap.size+1) 55 #[.int .i64 0,.int .i64 0,.string { data:=#[] },.string { data:=#[] },.string { data:=#[] },.slice none 0 0]:=by rw[Hw2.out,Hw1.out];exact fZ (by simp) _ _
 have hb2:Below w.heap.size w w2:=by rw[Hw2.out,Hw1.out];exact((Below.refl _ _).alloc (Nat.le_refl _) _).alloc (by simp) _
 have hz2:w2.heap.size=w.heap.size+2:=by rw[Hw2.out,Hw1.out];simp
 have Hz2:=ae hz2
 clear hz2
 have hf:=fun (W:World) (hW:Below w2.heap.size w2 W)=>And.intro (hx2.ag (hW.block _ hx2.lt)) (hy2.ag (hW.block _ hy2.lt))
 have Hf:=ae hf
 clear hf
 have hxl:=hx2.lt
 have hyl:=hy2.lt
 go_enter Tryz.func96,Tryz.ntmps96
 go_wp2_with (go_at_call 95;refine(Ha.out _).mono ?_;rintro x w' ⟨rfl,rfl⟩)
 rw[← Hw1.out,← Hw2.out]
 have yj:=hx2.cell 1
 have xC:=hx2.cell 2
 have vN:=hx2.cell 3
 have x24:=hx2.cell 4
 simp at yj xC vN x24
 go_region_with (go_at_call 74;go_loud (refine(HF.out _ _ (ai.drew (dC (w:=w2) 9 name rfl Ef))).mono ?_;rintro x w4 ⟨rfl,hb4⟩;have tH:Below w2.heap.size w2 w4:=(((Below.refl _ _).alloc (Nat.le_refl _) _).drew).trans (hb4.mono (by simp));have hx4:=(Hf.out w4 tH).1;have hy4:=(Hf.out w4 tH).2;have x41:=hx4.cell 1;have vZ:=hx4.cell 2;have x43:=hx4.cell 3;have wo:=hx4.cell 4;have Vd:=hy4.cell 1;have Ve:=hy4.cell 2;have Vf:=hy4.cell 3;have Vg:=hy4.cell 4;have yf:=hy4.frozen;have xl4:=hx4.lt;have yl4:=hy4.lt;simp at x41 vZ x43 wo Vd Ve Vf Vg))
 all_goals cases q
 all_goals go_wp2
 all_goals
  go_ret
  have zN:=hb2.trans (tH.mono hb2.size)
  have hq:=Hq.out
  have hr:=Hr.out
  rw[kV] at hq
  refine⟨aI ?_,?_⟩
  ·clear Hf HF Ha x41 vZ x43 wo Vd Ve Vf Vg yf
   simp_all [bT,lS]
   try omega
  ·repeat (first|exact zN|refine Below.drew ?_|refine Below.setCell ?_ (by simp) _)
theorem ab7 (n:Int) (s name src:ByteArray) (A:Option Addr) (m c:Nat) (w:World) (Ef:okS name) (an7:okS s) :
  Calls Tryz.prog 96 #[.agg #[.int .i64 5,.int .i64 n,.string s,.string name,.string src,.slice A m c]] w fun x w'=>x=.returned (.bool (bT 5 n s name src))∧Below w.heap.size w w':=by
 have ha:=fun W=>oL 5 W
 have hr:lM 5=false:=rfl
 rw[hr] at ha
 have Ha:=ae ha
 have Hr:=ae hr
 clear ha hr
 obtain⟨q,hq⟩:∃ q,lN [name,s]=q:=⟨_,rfl⟩
 have hF:=fun (W:World) (g:Nat) (h:ai (fun _=>True) W 1 dL (some ⟨g,0,none⟩) 2 2 [name,s])=>fJ _ _ _ _ _ W h
 rw[hq] at hF
 have HF:=ae hF
 have Hq:=ae hq
 clear hF hq
 obtain⟨w1,Hw1⟩:∃ w1,Hid (w1=w.alloc (.cells #[.int .i64 5,.int .i64 n,.string s,.string name,.string src,.slice A m c] 55)):=⟨_,rfl⟩
 obtain⟨w2,Hw2⟩:∃ w2,Hid (w2=w1.alloc (.cells #[.int .i64 0,.int .i64 0,.string { data:=#[] },.string { data:=#[] },.string { data:=#[] },.slice none 0 0] 55)):=⟨_,rfl⟩
 have hx2:af w2 w.heap.size 55 #[.int .i64 5,.int .i64 n,.string s,.string name,.string src,.slice A m c]:=by rw[Hw2.out,Hw1.out];exact(af.laid _ _ _).alloc _
 have hy2:af w2 (w.heap.size+1) 55 #[.int .i64 0,.int .i64 0,.string { data:=#[] },.string { data:=#[] },.string { data:=#[] },.slice none 0 0]:=by rw[Hw2.out,Hw1.out];exact fZ (by simp) _ _
 have hb2:Below w.heap.size w w2:=by rw[Hw2.out,Hw1.out];exact((Below.refl _ _).alloc (Nat.le_refl _) _).alloc (by simp) _
 have hz2:w2.heap.size=w.heap.size+2:=by rw[Hw2.out,Hw1.out];simp
 have Hz2:=ae hz2
 clear hz2
 have hf:=fun (W:World) (hW:Below w2.heap.size w2 W)=>And.intro (hx2.ag (hW.block _ hx2.lt)) (hy2.ag (hW.block _ hy2.lt))
 have Hf:=ae hf
 clear hf
 have hxl:=hx2.lt
 have hyl:=hy2.lt
 go_enter Tryz.func96,Tryz.ntmps96
 go_wp2_with (go_at_call 95;refine(Ha.out _).mono ?_;rintro x w' ⟨rfl,rfl⟩)
 rw[← Hw1.out,← Hw2.out]
 have yj:=hx2.cell 1
 have xC:=hx2.cell 2
 have vN:=hx2.cell 3
 have x24:=hx2.cell 4
 simp at yj xC vN x24
 go_region_held3 (fun w'=>w'.cell? ⟨w.heap.size,3,none⟩=some (.string name)∧w'.cell? ⟨w.heap.size,2,none⟩=some (.string s)) ((first|exact⟨x43,vZ⟩|exact⟨(World.cell?_alloc_lt w2 _ ⟨w.heap.size,3,none⟩ hxl).trans vN,(World.cell?_alloc_lt w2 _ ⟨w.heap.size,2,none⟩ hxl).trans xC⟩|(constructor<;>go_simp;done)|(simp[*];done))) (first|(go_at_call 74;go_loud (refine(HF.out _ _ (ai.drew (QB (w:=w2) 9 name s rfl Ef an7))).mono ?_;rintro x w4 ⟨rfl,hb4⟩;have tH:Below w2.heap.size w2 w4:=(((Below.refl _ _).alloc (Nat.le_refl _) _).drew).trans (hb4.mono (by simp));have hx4:=(Hf.out w4 tH).1;have hy4:=(Hf.out w4 tH).2;have x41:=hx4.cell 1;have vZ:=hx4.cell 2;have x43:=hx4.cell 3;have wo:=hx4.cell 4;have Vd:=hy4.cell 1;have Ve:=hy4.cell 2;have Vf:=hy4.cell 3;have Vg:=hy4.cell 4;have yf:=hy4.frozen;have xl4:=hx4.lt;have yl4:=hy4.lt;simp at x41 vZ x43 wo Vd Ve Vf Vg)))
 all_goals cases q
 all_goals go_wp2
 all_goals
  go_ret
  have zN:=hb2.trans (tH.mono hb2.size)
  have hq:=Hq.out
  have hr:=Hr.out
  rw[kV] at hq
  refine⟨aI ?_,?_⟩
  ·clear Hf HF Ha x41 vZ x43 wo Vd Ve Vf Vg yf
   simp_all [bT,lS]
   try omega
  ·repeat (first|exact zN|refine Below.drew ?_|refine Below.setCell ?_ (by simp) _)
theorem Q8 (op n:Int) (s name src:ByteArray) (A:Option Addr) (m c:Nat) (w:World) (hop:21≤op) (aq5:op≤24) (Ef:okS name) (aik:okS src) :
  Calls Tryz.prog 96 #[.agg #[.int .i64 op,.int .i64 n,.string s,.string name,.string src,.slice A m c]] w fun x w'=>x=.returned (.bool (bT op n s name src))∧Below w.heap.size w w':=by
 have ha:=fun W=>oL op W
 have hr:lM op=true:=by simp[lM];omega
 rw[hr] at ha
 have Ha:=ae ha
 have Hr:=ae hr
 clear ha hr
 have e1:(op==1)=false:=by simp;omega
 have e2:(op==2)=false:=by simp;omega
 have e3:(op==3)=false:=by simp;omega
 have e4:(op==4)=false:=by simp;omega
 have e5:(op==5)=false:=by simp;omega
 obtain⟨q,hq⟩:∃ q,lN [name,src]=q:=⟨_,rfl⟩
 have hF:=fun (W:World) (g:Nat) (h:ai (fun _=>True) W 1 dL (some ⟨g,0,none⟩) 2 2 [name,src])=>fJ _ _ _ _ _ W h
 rw[hq] at hF
 have HF:=ae hF
 have Hq:=ae hq
 clear hF hq
 obtain⟨w1,Hw1⟩:∃ w1,Hid (w1=w.alloc (.cells #[.int .i64 op,.int .i64 n,.string s,.string name,.string src,.slice A m c] 55)):=⟨_,rfl⟩
 obtain⟨w2,Hw2⟩:∃ w2,Hid (w2=w1.alloc (.cells #[.int .i64 0,.int .i64 0,.string { data:=#[] },.string { data:=#[] },.string { data:=#[] },.slice none 0 0] 55)):=⟨_,rfl⟩
 have hx2:af w2 w.heap.size 55 #[.int .i64 op,.int .i64 n,.string s,.string name,.string src,.slice A m c]:=by rw[Hw2.out,Hw1.out];exact(af.laid _ _ _).alloc _
 have hy2:af w2 (w.heap.size+1) 55 #[.int .i64 0,.int .i64 0,.string { data:=#[] },.string { data:=#[] },.string { data:=#[] },.slice none 0 0]:=by rw[Hw2.out,Hw1.out];exact fZ (by simp) _ _
 have hb2:Below w.heap.size w w2:=by rw[Hw2.out,Hw1.out];exact((Below.refl _ _).alloc (Nat.le_refl _) _).alloc (by simp) _
 have hz2:w2.heap.size=w.heap.size+2:=by rw[Hw2.out,Hw1.out];simp
 have Hz2:=ae hz2
 clear hz2
 have hf:=fun (W:World) (hW:Below w2.heap.size w2 W)=>And.intro (hx2.ag (hW.block _ hx2.lt)) (hy2.ag (hW.block _ hy2.lt))
 have Hf:=ae hf
 clear hf
 have hxl:=hx2.lt
 have hyl:=hy2.lt
 go_enter Tryz.func96,Tryz.ntmps96
 go_wp2_with (go_at_call 95;refine(Ha.out _).mono ?_;rintro x w' ⟨rfl,rfl⟩)
 rw[← Hw1.out,← Hw2.out]
 have yj:=hx2.cell 1
 have xC:=hx2.cell 2
 have vN:=hx2.cell 3
 have x24:=hx2.cell 4
 simp at yj xC vN x24
 go_region_held3 (fun w'=>w'.cell? ⟨w.heap.size,3,none⟩=some (.string name)∧w'.cell? ⟨w.heap.size,4,none⟩=some (.string src)) ((first|exact⟨x43,wo⟩|exact⟨(World.cell?_alloc_lt w2 _ ⟨w.heap.size,3,none⟩ hxl).trans vN,(World.cell?_alloc_lt w2 _ ⟨w.heap.size,4,none⟩ hxl).trans x24⟩|(constructor<;>go_simp;done)|(simp[*];done))) (first|(go_at_call 74;go_loud (refine(HF.out _ _ (ai.drew (QB (w:=w2) 9 name src rfl Ef aik))).mono ?_;rintro x w4 ⟨rfl,hb4⟩;have tH:Below w2.heap.size w2 w4:=(((Below.refl _ _).alloc (Nat.le_refl _) _).drew).trans (hb4.mono (by simp));have hx4:=(Hf.out w4 tH).1;have hy4:=(Hf.out w4 tH).2;have x41:=hx4.cell 1;have vZ:=hx4.cell 2;have x43:=hx4.cell 3;have wo:=hx4.cell 4;have Vd:=hy4.cell 1;have Ve:=hy4.cell 2;have Vf:=hy4.cell 3;have Vg:=hy4.cell 4;have yf:=hy4.frozen;have xl4:=hx4.lt;have yl4:=hy4.lt;simp at x41 vZ x43 wo Vd Ve Vf Vg)))
 all_goals cases q
 all_goals go_wp2
 all_goals
  go_ret
  have zN:=hb2.trans (tH.mono hb2.size)
  have hq:=Hq.out
  have hr:=Hr.out
  rw[kV] at hq
  refine⟨aI ?_,?_⟩
  ·clear Hf HF Ha x41 vZ x43 wo Vd Ve Vf Vg yf
   simp_all [bT,lS]
   try omega
  ·repeat (first|exact zN|refine Below.drew ?_|refine Below.setCell ?_ (by simp) _)
theorem UH (op n:Int) (s name src:ByteArray) (A:Option Addr) (m c:Nat) (w:World) (h1:okS name) (h2:okS s) (h3:okS src) :
  Calls Tryz.prog 96 #[.agg #[.int .i64 op,.int .i64 n,.string s,.string name,.string src,.slice A m c]] w fun x w'=>x=.returned (.bool (bT op n s name src))∧Below w.heap.size w w':=by
 by_cases e1:op=1
 ·subst e1;exact abm n s name src A m c w
 by_cases e2:op=2
 ·subst e2;exact abn n s name src A m c w
 by_cases e3:op=3
 ·subst e3;exact abo n s name src A m c w
 by_cases e4:op=4
 ·subst e4;exact ab6 n s name src A m c w h1
 by_cases e5:op=5
 ·subst e5;exact ab7 n s name src A m c w h1 h2
 by_cases er:21≤op∧op≤24
 ·exact Q8 op n s name src A m c w er.1 er.2 h1 h3
 ·exact Nb n s name src A m c w op (by omega) (by omega)
def vJ (F:Nat→Prop) (d:Nat):Prop:=∀ (e:Ex) (row:List Value) (w:World),aC F d w row e →
 Calls Tryz.prog 61 #[.agg row.toArray] w fun x w'=>x=.returned (.bool (aA d e))∧Below w.heap.size w w'
theorem UI (F:Nat→Prop) (d:Nat) (ih:vJ F d) (e:Ex) (row:List Value) (w:World) (h:aC F d w row e) :
  Calls Tryz.prog 98 #[.agg row.toArray] w fun x w'=>x=.returned (.bool (!aA d e))∧Below w.heap.size w w':=by
 cases d with
 | zero=>exact h.elim
 | succ d =>
  have h':=h
  obtain⟨A,m,c,rfl,hl⟩:=h.open_.2.2.2.2.2
  have hb1:Below w.heap.size w (w.alloc (.cells #[.int .i64 e.op,.int .i64 e.n,.string e.s,.string e.name,.string e.src,.slice A m c] 55)):=(Below.refl _ _).alloc (Nat.le_refl _) _
  have Hc:=ae (ih e _ _ (h'.below hb1))
  generalize aA (d+1) e=r at *
  go_enter Tryz.func98,Tryz.ntmps98
  go_wp2_with (go_at_call 61;refine Hc.out.mono ?_;rintro x w1 ⟨rfl,hb⟩)
  go_ret
  exact⟨aI (by simp),hb1.trans (hb.mono hb1.size)⟩
theorem JH (F:Nat→Prop) (d:Nat) (ih:vJ F d) (A:Option Addr) (n c:Nat) (es:List Ex) (w:World) (h:aO F d w A n c es) :
  Calls Tryz.prog 128 #[.slice A n c,.func (.func 98) #[] #[]] w fun x w'=>x=.returned (.int .i64 (su (fun e=>!aA d e) es))∧Below w.heap.size w w':=by
 have hn:=ai.gu h
 have Hl:=ae (ai.len h)
 go_enter Tryz.func128,Tryz.ntmps128
 go_wp2
 go_loopw [8] (fun i wr=>∃ k:Nat,k≤n∧i=.int .i64 k∧(∀ y∈es.take k,(!aA d y)=false)∧Below w.heap.size w wr) (fun i _=>n-(intOf i).toNat)
 case atStart=>exact⟨0,Nat.zero_le _,rfl,by simp,Below.refl _ _⟩
 case round =>
  obtain⟨k,hk,rfl,hall,hb⟩:=hrel
  have lZ:=ae hall;clear hall
  by_cases hlt:k<n
  ·cases d with
   | zero =>
    obtain⟨b,o,r,e,hA,hbl,_,he,hl,hp,hc⟩:=ai.get (h.below hb) hlt
    exact hp.elim
   | succ d =>
    obtain⟨b,o,e,A2,m2,c2,rfl,hbl,hx,hc0,hc1,hc2,hc3,hc4,hc5,hp,_⟩:=aO.get (h.below hb) hlt
    have hc:=UI F (d+1) ih e _ wr hp
    obtain⟨q,hq⟩:∃ q,(!aA (d+1) e)=q:=⟨_,rfl⟩
    rw[hq] at hc
    have Hc:=ae hc
    have Hq:=ae hq
    have Hx:=ae hx
    clear hc hq hx
    cases q
    ·have KU:=ae (gU Hx.out lZ.out Hq.out)
     go_wp2_with (go_at_call 98;refine Hc.out.mono ?_;rintro y w1 ⟨rfl,hb1⟩)
     go_roundw
     case rel=>exact⟨k+1,by omega,by go_num,KU.out,hb.trans (hb1.mono hb.size)⟩
     case measure=>simp[intOf];omega
    ·have Hf:=ae (xq (p:=fun e=>!aA (d+1) e) Hx.out Hq.out lZ.out)
     go_wp2_with (go_at_call 98;refine Hc.out.mono ?_;rintro y w1 ⟨rfl,hb1⟩)
     go_ret
     exact⟨by rw[Hf.out];rfl,hb.trans (hb1.mono hb.size)⟩
  ·go_wp2
   go_ret
   have h1:=lZ.out
   rw[List.take_of_length_le (by rw[Hl.out];omega)] at h1
   exact⟨by rw[DZ h1];rfl,hb⟩
theorem Eg (F:Nat→Prop) (d:Nat) (ih:vJ F d) (A:Option Addr) (n c:Nat) (es:List Ex) (w:World) (h:aO F d w A n c es) :
  Calls Tryz.prog 97 #[.slice A n c,.func (.func 98) #[] #[]] w fun x w'=>x=.returned (.bool (!es.all (aA d)))∧Below w.heap.size w w':=by
 have hi:=JH F d ih A n c es w h
 have hp:=xm (fun e=>!aA d e) es
 have hq:(es.any fun e=>!aA d e) = !es.all (aA d):=by
  induction es with
  | nil=>rfl
  | cons a r _=>simp[List.any_eq_not_all_not]
 rw[hq] at hp
 generalize es.all (aA d)=r at *
 generalize su (fun e=>!aA d e) es=i at *
 have Hp:=ae hp
 have Hi:=ae hi
 clear hp hi hq
 go_enter Tryz.func97,Tryz.ntmps97
 go_wp2_with (go_at_call 128;refine Hi.out.mono ?_;rintro x w' ⟨rfl,hb⟩)
 go_ret
 exact⟨aI Hp.out,hb⟩
theorem IW (F:Nat→Prop) (d:Nat):vJ F d:=by
 induction d with
 | zero=>intro e row w h;exact h.elim
 | succ d ih =>
  intro e row w h
  obtain⟨ho,hn,hs,hnm,hsr,A,m,c,rfl,hl⟩:=h.open_
  have hlen:=ai.len hl
  have hb1:Below w.heap.size w (w.alloc (.cells #[.int .i64 e.op,.int .i64 e.n,.string e.s,.string e.name,.string e.src,.slice A m c] 55)):=(Below.refl _ _).alloc (Nat.le_refl _) _
  have hx1:af (w.alloc (.cells #[.int .i64 e.op,.int .i64 e.n,.string e.s,.string e.name,.string e.src,.slice A m c] 55)) w.heap.size 55 #[.int .i64 e.op,.int .i64 e.n,.string e.s,.string e.name,.string e.src,.slice A m c]:=af.laid _ _ _
  have Hx1:=ae hx1
  have Ha:=ae (oL e.op)
  have Hf:=ae (fun W=>UH e.op e.n e.s e.name e.src A m c W hnm hs hsr)
  have Hc:=ae (fun W (hW:Below w.heap.size w W)=>Eg F d ih A m c e.args W (hl.below hW))
  have hfin:aA (d+1) e=(decide (iY e.op=(m:Int))&&bT e.op e.n e.s e.name e.src&&e.args.all (aA d)):=by
   rw[← hlen];rfl
  generalize bT e.op e.n e.s e.name e.src=q at *
  generalize e.args.all (aA d)=r at *
  generalize aA (d+1) e=fin at *
  have bn:=ae hfin
  clear hfin hlen hx1
  generalize iY e.op=ar at *
  by_cases har:ar=(m:Int)
  ·have hb:(ar==(m:Int))=true:=by simpa using har
   have Har:=ae har
   clear har
   cases q
   ·go_enter Tryz.func61,Tryz.ntmps61
    go_wp2_with (first|(go_at_call 95;refine(Ha.out _).mono ?_;rintro x w' ⟨rfl,rfl⟩)|(go_at_call 96;refine(Hf.out _).mono ?_;rintro x w2 ⟨rfl,hb2⟩))
    go_ret
    exact⟨aI (by rw[bn.out];simp),hb1.trans (hb2.mono hb1.size)⟩
   ·go_enter Tryz.func61,Tryz.ntmps61
    go_wp2_with (first|(go_at_call 95;refine(Ha.out _).mono ?_;rintro x w' ⟨rfl,rfl⟩)|(go_at_call 96;refine(Hf.out _).mono ?_;rintro x w2 ⟨rfl,hb2⟩;have aim:=hb1.trans (hb2.mono hb1.size);have hx2:=Hx1.out.ag (hb2.block _ Hx1.out.lt);have x25:=hx2.cell 5;simp at x25)|(go_at_call 97;refine(Hc.out _ aim).mono ?_;rintro x w3 ⟨rfl,hb3⟩))
    go_ret
    exact⟨aI (by rw[bn.out];simp[Har.out]),aim.trans (hb3.mono aim.size)⟩
  ·have hb:(ar==(m:Int))=false:=by simpa using har
   have Har:=ae har
   clear har
   go_enter Tryz.func61,Tryz.ntmps61
   go_wp2_with (go_at_call 95;refine(Ha.out _).mono ?_;rintro x w' ⟨rfl,rfl⟩)
   go_ret
   exact⟨aI (by rw[bn.out];simp[Har.out]),hb1⟩
theorem aeK (ok:Bool) (s:ByteArray) (w:World) (hs:okS s):Calls Tryz.prog 136 #[.bool ok,.string s] w fun x w'=>∃ A n c,x=.returned (.slice A n c)∧ai (fun _=>True) w' 1 dL A n c (if ok then [s] else [])∧Below w.heap.size w w':=by
 cases ok
 ·go_enter Tryz.func136,Tryz.ntmps136
  go_wp2
  go_ret
  exact⟨none,0,0,rfl,ai.nil_ _ _ _ _,Below.refl _ _⟩
 ·go_enter Tryz.func136,Tryz.ntmps136
  go_wp2
  go_ret
  exact⟨_,1,1,rfl,dC 9 s rfl hs,(Below.refl _ _).alloc (Nat.le_refl _) _⟩
theorem fC (n lo hi:Int) (w:World):Calls Tryz.prog 73 #[.int .i64 n,.int .i64 lo,.int .i64 hi] w fun x w'=>x=.returned (.bool (decide (lo≤n)&&decide (n≤hi)))∧w=w':=by
 go_enter Tryz.func73,Tryz.ntmps73
 go_wp2
 all_goals
  go_ret
  refine⟨aI ?_,rfl⟩
  rw[Bool.eq_iff_iff]
  simp
  try omega
end Go.Proofs.YtjjfkhbajidmdaaGreatDoor
namespace Go.Afx
open Go.RowKit Go.Proofs
theorem UJ (l:List (List UInt8)):(l.mergeSort fun x y=>decide (x≤y)).Pairwise (fun x y=>x≤y):=by
 have tr:∀ a b c:List UInt8,decide (a≤b)=true→decide (b≤c)=true→decide (a≤c)=true:=fun a b c h1 h2=>by simp only[decide_eq_true_eq] at *;exact List.le_trans h1 h2
 have tt:∀ a b:List UInt8,(decide (a≤b)||decide (b≤a))=true:=fun a b=>by simp only[Bool.or_eq_true,decide_eq_true_eq];exact List.le_total a b
 exact(List.pairwise_mergeSort tr tt l).imp fun h=>by simpa using h
theorem Ny {ss:List (List UInt8)} (hs:ss.Pairwise (fun x y=>x≤y)):(Lib.compact ss).length=ss.length ↔ ss.Nodup:=by
 have e:(Lib.compact ss).length=ss.length ↔ ∀ j,j<ss.length→Lib.keeps ss.toArray j=true:=by
  unfold Lib.compact Lib.compactUpTo
  rw[List.length_map]
  have h1:=List.length_filter_eq_length_iff (p:=Lib.keeps ss.toArray) (l:=List.range ss.length)
  rw[List.length_range] at h1
  rw[h1]
  simp
 rw[e]
 have g:∀ j,j<ss.length→ss.toArray[j]! = ss[j]!:=fun j hj=>by simp[getElem!_pos,hj]
 constructor
 ·intro h
  refine List.pairwise_iff_getElem.2 fun i j hi hj hij he=>?_
  have h1:=h j hj
  simp only[Lib.keeps,decide_eq_true_eq] at h1
  rw[g j hj,g (j-1) (by omega),getElem!_pos ss j hj,getElem!_pos ss (j-1) (show j-1<ss.length by omega)] at h1
  have h3:ss[j-1]≤ss[j]:=List.pairwise_iff_getElem.1 hs (j-1) j (by omega) hj (by omega)
  have h2:ss[i]≤ss[j-1]:=by
   by_cases hi':i=j-1
   ·subst hi';exact List.le_refl _
   ·exact List.pairwise_iff_getElem.1 hs i (j-1) hi (by omega) (by omega)
  rw[he] at h2
  rcases h1 with h1|h1
  ·omega
  ·exact h1 (List.le_antisymm h2 h3)
 ·intro h j hj
  simp only[Lib.keeps,decide_eq_true_eq]
  by_cases h0:j=0
  ·exact .inl h0
  ·refine .inr fun he=>?_
   rw[g j hj,g (j-1) (by omega),getElem!_pos ss j hj,getElem!_pos ss (j-1) (show j-1<ss.length by omega)] at he
   exact List.pairwise_iff_getElem.1 h (j-1) j (by omega) hj (by omega) he.symm
def kF (xs:List ByteArray):List (List UInt8):=xs.map (·.data.toList)
theorem uo (xs:List ByteArray):(kF xs).length=xs.length:=by simp[kF]
theorem data_inj {a b:ByteArray} (h:a.data.toList=b.data.toList):a=b:=by
 cases a;cases b;simp at h;subst h;rfl
theorem UK (xs:List ByteArray):(kF xs).map encStr=xs.map Value.string:=by simp[kF,encStr]
theorem Nz (xs:List ByteArray):(kF xs).Nodup ↔ xs.Nodup:=by
 unfold kF List.Nodup
 rw[List.pairwise_map]
 exact⟨fun h=>h.imp fun h e=>h (by rw[e]),fun h=>h.imp fun h e=>h (data_inj e)⟩
theorem Q9 (xs:List ByteArray):(Lib.compact ((kF xs).mergeSort fun x y=>decide (x≤y))).length=xs.length ↔ xs.Nodup:=by
 rw[← Nz,← (List.mergeSort_perm (kF xs) fun x y=>decide (x≤y)).nodup_iff,← Ny (UJ _),List.length_mergeSort,uo]
end Go.Afx
namespace Go.Proofs.YtjjfkhbajidmdaaGreatDoor
open Go.RowKit Go.Afx Go.Shelf Go.Sort
theorem zu {α:Type} {l:List α} {k:Nat} {x:α} (h:l[k]?=some x):l.take (k+1)=l.take k++[x]:=by
 obtain⟨hk,rfl⟩:=List.getElem?_eq_some_iff.1 h
 exact List.take_succ_eq_append_getElem hk
section
attribute [local go_sem] Oper.semAt_some
theorem values1_in (d:Nat) (hd:1≤d) (l Bs n₀:Nat) (A:Option Addr) (n c:Nat) (xs:List ByteArray) (J Jx:List ByteArray→World→Prop)
  (hY:∀ pre x W,J pre W→pre.length<n→YieldAt Fence.wide (d-1) Tryz.prog l #[.string x] W fun e W' =>
   (e=.returned (.bool true)∧J (pre++[x]) W'∧Below n₀ W W')∨(e=.returned (.bool false)∧Jx (pre++[x]) W'))
  (W:World) (hBs:W.cell? ⟨Bs,0,none⟩=some (.slice A n c)) (hL:ai (fun b=>b<n₀) W 1 dL A n c xs) (h0:J [] W) :
  CallsIn Fence.wide d Tryz.prog 135 #[.func (.yield l) #[] #[],.pointer (some ⟨Bs,0,none⟩)] W fun e W'=>(∃ v,e=.returned v) ∧
   ((∃ ys,ys=xs∧J ys W')∨(∃ pre,True∧Jx pre W')):=by
 have hn:=hL.gu
 have Hl:=ae hL.len
 refine callsIn_of_wp Tryz.func135 rfl trivial ?_ rfl
 simp only[Tryz.ntmps135,List.size_toArray,List.length_cons,List.length_nil,Nat.reduceAdd,Nat.reduceSub,Array.replicate_succ,Array.replicate_zero,List.push_toArray,List.append_toArray,List.nil_append,List.cons_append]
 gi_wp2
 gi_loopw [7] (fun i wr=>∃ k:Nat,k≤n∧i=.int .i64 k∧J (xs.take k) wr∧Below n₀ W wr) (fun i _=>n-(intOf i).toNat)
 case atStart=>exact⟨0,Nat.zero_le _,rfl,by simpa using h0,Below.refl _ _⟩
 case round =>
  obtain⟨k,hk,rfl,hJs,hnx⟩:=hrel
  by_cases hlt:k<n
  ·obtain⟨b,o,r,x,rfl,hbl,hb0,hx,hrl,⟨rfl,hs⟩,hc⟩:=hL.get hlt
   have hcx:wr.cell? ⟨b,o+k,none⟩=some (.string x):=(hnx.cell (p:=⟨b,o+k,none⟩) hb0).trans (by simpa using hc 0 _ rfl)
   have Hx:=ae (zu hx)
   clear hc hx
   obtain⟨fn,tmps,assign,body,hy,hR⟩:=hY _ x wr hJs (by rw[List.length_take];omega)
   gi_wp2
   refine hR.mono ?_
   rintro e W3 (⟨rfl,hJ3,hk3⟩|⟨rfl,hJx3⟩)
   ·gi_wp2
    go_roundw
    case rel=>exact⟨k+1,by omega,by simp,by rw[Hx.out];exact hJ3,hnx.trans hk3⟩
    case measure=>simp[intOf];omega
   ·gi_wp2
    refine bodyPost_ret (results_none rfl _ _ _) rfl ?_
    exact⟨⟨_,rfl⟩,.inr ⟨_,trivial,hJx3⟩⟩
  ·obtain rfl:k=n:=by omega
   gi_wp2
   go_end0
   rw[List.take_of_length_le (by rw[Hl.out];omega)] at hJs
   exact⟨⟨_,rfl⟩,.inl ⟨_,rfl,hJs⟩⟩
theorem values_in (d:Nat) (A:Option Addr) (n c:Nat) (w:World) :
  CallsIn Fence.wide d Tryz.prog 106 #[.slice A n c] w fun e w'=>e=.returned (.func (.func 135) #[] #[.pointer (some ⟨w.heap.size,0,none⟩)])∧w'=w.alloc (.cells #[.slice A n c] 47):=by
 refine callsIn_of_wp Tryz.func106 rfl trivial ?_ rfl
 simp only[Tryz.ntmps106,List.size_toArray,List.length_cons,List.length_nil,Nat.reduceAdd,Nat.reduceSub,Array.replicate_succ,Array.replicate_zero,List.push_toArray,List.append_toArray,List.nil_append,List.cons_append]
 gi_wp2
 go_ret
 exact⟨rfl,rfl⟩
theorem values_stops (d:Nat) (hd:1≤d) (Bs n₀:Nat) (A:Option Addr) (n c:Nat) (xs:List ByteArray) (w:World) (hBs:Bs<w.heap.size)
  (hc:w.cell? ⟨Bs,0,none⟩=some (.slice A n c)) (hL:ai (fun b=>b<n₀) w 1 dL A n c xs) :
  SeqStopsK Fence.wide d Tryz.prog 135 #[.pointer (some ⟨Bs,0,none⟩)] (fun x:ByteArray=>#[Value.string x]) (Below n₀) (fun ys=>ys=xs) (fun _=>True) n w:=fun l J Jx W hW _ _ hY h0 =>
 values1_in d hd l Bs n₀ A n c xs J Jx hY W ((hW.cell (p:=⟨Bs,0,none⟩) hBs).trans hc) (hL.below hW) h0
theorem agF:kC Tryz.prog 47 9 1 16 (.string ByteArray.empty):=⟨Tryz.underlying47,by kernel_rfl,rfl,by decide⟩
theorem appendSeq_in (d:Nat) (hd:3≤d) (g:Nat) (lb:Array Value) (eg:∀ args w,(callFunc g args).run Tryz.prog w=.ok (.enter g args) w) (xs:List ByteArray) (hN:xs.length≤maxLen) (hNb:xs.length*16≤140737488355328) (w:World) (n₀:Nat) (hn₀:n₀≤w.heap.size)
  (hseq:SeqStopsK Fence.wide (d-1) Tryz.prog g lb (fun x:ByteArray=>#[Value.string x]) (Below n₀) (fun ys=>ys=xs) (fun _=>True) xs.length w) :
  CallsIn Fence.wide d Tryz.prog 158 #[.slice none 0 0,.func (.func g) #[] lb] w fun e W'=>∃ v,e=.returned v∧W'.ownsRow w.heap.size 9 1 v xs.length (xs.map Value.string)∧(v=.slice none 0 0 ↔ xs=[])∧Below w.heap.size w W':=by
 have h1:1≤d:=by omega
 obtain⟨i0,hi,hz0,hz1,hz2⟩:=agF.at_
 refine callsIn_of_wp_marks Tryz.func158 rfl trivial ?_ rfl
 simp only[Tryz.ntmps158,List.size_toArray,List.length_cons,List.length_nil,Nat.reduceAdd,Nat.reduceSub,Array.replicate_succ,Array.replicate_zero,List.push_toArray,List.append_toArray,List.nil_append,List.cons_append]
 gi_wp2
 have bO:=Boxed.new w 47 (.slice none 0 0)
 have hB0:Below w.heap.size w (w.alloc (.cells #[.slice none 0 0] 47)):=(Below.refl _ w).alloc (Nat.le_refl _) _
 refine wpIn_rangeFunc_ownG rfl h1 (gf:=g) (lb:=lb) rfl trivial eg hseq belowK_t (belowK_b (by simp;omega)) hB0 (fun _=>rfl)
  (fun pre W=>(∃ v,Boxed W w.heap.size 47 v∧W.ownsRow w.heap.size 9 1 v pre.length (pre.map Value.string)∧(v=.slice none 0 0 ↔ pre=[]))∧Below w.heap.size w W)
  (fun _ _ _=>False)
  (OwnFrom.and (Own.from (holdsRow_own w.heap.size w.heap.size 47 9 1 (fun pre=>pre.length) (fun pre=>pre.map Value.string) (fun pre v=>v=.slice none 0 0 ↔ pre=[])) _) (ownFrom_below (Nat.le_refl _) (by simp)))
  (fun _ _ _ _ _ hs _ _=>hs)
  ⟨⟨_,bO,World.ownsRow_nil _ _ _ _,by simp⟩,hB0⟩
  (fun x=>{ tmps:=#[.slice none 0 0,.func (.func g) #[] lb,.pointer (some ⟨w.heap.size,0,none⟩),undef,.slice none 0 0,.string x,.func (.func g) #[] lb,.string x,undef,undef,undef,undef,undef],defers:=[] }) ?assign ?body ?done ?stop
 case assign =>
  intro l x W K hK
  gi_wp2
  exact hK
 case body =>
  rintro l pre x W ⟨⟨v,hv,hrow,hnil⟩,hB⟩ hlt
  have hc:=hv.cell
  gi_wp2_with (gi_at_builtin;refine wpListIn_append_own _ rfl _ _ 47 rfl w.heap.size 9 i0 (.string ByteArray.empty) 1 16 Tryz.underlying47 hi hz0 hz1 hz2 rfl (by decide) _ _ _ rfl (hrow.alloc _) ⟨W.heap.size,0,none⟩ 1 1 [.string x] rfl rfl (cell_one_new _ _ _) (by simp[Value.oneCell']) (by omega) (by omega) (by have:=hB.size;simp;omega) ?_;intro v' w1 hown' hgrow _;obtain⟨g',cap',rfl⟩:=ownsRow_succ hown';obtain⟨hv1,hv2,hr2,hk2,hb2⟩:=hv.appended (by decide) hrow hB.size (Nat.le_refl _) hown' hgrow;have hc1:=hv1.cell;have hf1:=hv1.frozen)
  exact⟨hk2.from _,hb2.mono hn₀,⟨_,hv2,by simpa using hr2,by simp⟩,hB.trans hb2⟩
 case done =>
  rintro D ys W hD rfl ⟨⟨v,hv,hrow,hnil⟩,hB⟩ hK
  have hc:=hv.cell
  gi_wp2
  refine⟨by simp,.inl ⟨_,_,rfl,run_takeDeferred hK,?_⟩⟩
  exact⟨_,results_tmp rfl _ _ _,v,rfl,ownsRow_putObj hrow _ hK rfl,hnil,hB.trans (belowK_b (w:=w) (Nat.le_refl _) W D _ _ (by simp at hD;omega) hK rfl rfl)⟩
 case stop =>
  rintro D c pre W _ _ h _
  exact h.elim
end
theorem Rf (g:Nat) (lb:Array Value) (eg:∀ args w,(callFunc g args).run Tryz.prog w=.ok (.enter g args) w) (xs:List ByteArray) (hN:xs.length≤1000000) (w:World) (n₀:Nat) (hn₀:n₀≤w.heap.size)
  (hseq:SeqStopsK Fence.wide 3 Tryz.prog g lb (fun x:ByteArray=>#[Value.string x]) (Below n₀) (fun ys=>ys=xs) (fun _=>True) xs.length w) :
  Calls Tryz.prog 133 #[.func (.func g) #[] lb] w fun e W'=>∃ v,e=.returned v∧W'.ownsRow w.heap.size 9 1 v xs.length (xs.map Value.string)∧(v=.slice none 0 0 ↔ xs=[])∧Below w.heap.size w W':=by
 have Hc:=ae (callsIn_wide.1 (appendSeq_in 4 (by omega) g lb eg xs (by unfold maxLen;omega) (by omega) w n₀ hn₀ hseq))
 go_enter Tryz.func133,Tryz.ntmps133
 go_wp2_with (go_at_call 158;refine Hc.out.mono ?_;rintro e w1 ⟨v,rfl,hrow,hnil,hb⟩)
 go_ret
 exact⟨v,rfl,hrow,hnil,hb⟩
def sortedB (xs:List ByteArray):List (List UInt8):=(kF xs).mergeSort fun x y=>decide (x≤y)
theorem XT (base:Nat) (A:Option Addr) (n c:Nat) (xs:List ByteArray) (w:World) (hn:xs.length=n) (hbig:n≤1000000) (hown:w.ownsRow base 9 1 (.slice A n c) n (xs.map Value.string)) :
  Calls Tryz.prog 134 #[.slice A n c] w fun e w'=>e=.returned (.tuple #[])∧w'.ownsRow base 9 1 (.slice A n c) n ((sortedB xs).map encStr)∧Below base w w':=by
 subst hn
 rcases hown.2 with ⟨hv,h0⟩|⟨g,cap,cur,hv,hbg,hg,hnc,hcm,hcs,htk⟩
 ·injection hv with h1 h2 h3
  subst h1 h3
  have hx:xs=[]:=List.eq_nil_of_length_eq_zero h0
  subst hx
  refine(AnyM.slices_Sort_string_none Tryz.sortS none 0 w).mono ?_
  rintro e w' ⟨rfl,rfl⟩
  exact⟨rfl,by rw[show sortedB []=[] by simp[sortedB,kF]];exact hown,Below.refl _ _⟩
 ·injection hv with h1 h2 h3
  subst h1 h3
  have hlt:g<w.heap.size:=(Array.getElem?_eq_some_iff.1 hg).1
  have hl:(kF xs).length=xs.length:=uo xs
  have ain:cur.toList.take (kF xs).length=(kF xs).map encStr:=by rw[UK,← htk,hl,Nat.mul_one]
  have hc:=AnyM.slices_Sort_string Tryz.sortS g 0 c (kF xs) w (holds_of_block hg ain) hlt (by omega)
  rw[hl] at hc
  refine hc.mono ?_
  rintro e w' ⟨rfl,k,os,rfl⟩
  refine⟨rfl,?_,?_⟩
  ·have h:=ownsRow_sorted (ss:=kF xs) (ts:=sortedB xs) (n:=k) (os:=os) (List.length_mergeSort _) hbg hg (by omega) hcm hcs
   rw[hl] at h
   exact h
  ·exact(But.grown (But.refl (fun k=>k=g) w) (grownBy_sorted _) (fun k hk=>by cases hk;exact .inl rfl)).below' (by omega) (fun i hi=>by subst hi;exact hbg)
theorem Rh (g:Nat) (lb:Array Value) (eg:∀ args w,(callFunc g args).run Tryz.prog w=.ok (.enter g args) w) (xs:List ByteArray) (hN:xs.length≤1000000) (w:World) (n₀:Nat) (hn₀:n₀≤w.heap.size)
  (hseq:SeqStopsK Fence.wide 3 Tryz.prog g lb (fun x:ByteArray=>#[Value.string x]) (Below n₀) (fun ys=>ys=xs) (fun _=>True) xs.length w) :
  Calls Tryz.prog 105 #[.func (.func g) #[] lb] w fun e W'=>∃ A c,e=.returned (.slice A xs.length c)∧W'.ownsRow w.heap.size 9 1 (.slice A xs.length c) xs.length ((sortedB xs).map encStr)∧Below w.heap.size w W':=by
 have Hc:=ae (Rf g lb eg xs hN w n₀ hn₀ hseq)
 go_enter Tryz.func105,Tryz.ntmps105
 go_wp2_with (first|(go_at_call 133;refine Hc.out.mono ?_;rintro e w1 ⟨v,rfl,hrow,hnil,hb⟩;obtain⟨A,c,rfl,hnc⟩:=ownsRow_form hrow;have Hs:=ae (XT _ A xs.length c xs w1 rfl hN hrow))|(go_at_call 134;refine Hs.out.mono ?_;rintro e w2 ⟨rfl,hrow2,hb2⟩))
 go_ret
 exact⟨A,c,rfl,hrow2,hb.trans (hb2.mono (Nat.le_refl _))⟩
theorem Ri {w:World} {g n:Nat} (d:Array (List UInt8)):w.grownBy (putRow encStr (Sort.ahead w n) g 0 d) (some g):=by
 refine⟨rfl,rfl,rfl,by simp,fun k hk hne=>?_⟩
 have:g≠k:=fun e=>hne (by rw[e])
 simp[putRow,mapBlock,Sort.ahead,Array.getElem?_modify,this]
theorem NC (base:Nat) (A:Option Addr) (n c:Nat) (xs:List ByteArray) (w:World) (hn:xs.length=n) (hbig:n≤1000000) (hown:w.ownsRow base 9 1 (.slice A n c) n ((sortedB xs).map encStr)) :
  Calls Tryz.prog 104 #[.slice A n c] w fun e w'=>e=.returned (.slice A (Lib.compact (sortedB xs)).length c)∧Below base w w':=by
 subst hn
 have hl:(sortedB xs).length=xs.length:=by rw[sortedB,List.length_mergeSort,uo]
 rcases hown.2 with ⟨hv,h0⟩|⟨g,cap,cur,hv,hbg,hg,hnc,hcm,hcs,htk⟩
 ·injection hv with h1 h2 h3
  subst h1 h3
  have hx:xs=[]:=List.eq_nil_of_length_eq_zero h0
  subst hx
  refine(AnyG.slices_Compact_string_empty Tryz.compactS none 0 w).mono ?_
  rintro e w' ⟨rfl,rfl⟩
  exact⟨by rw[show sortedB []=[] by simp[sortedB,kF]];rfl,Below.refl _ _⟩
 ·injection hv with h1 h2 h3
  subst h1 h3
  have hlt:g<w.heap.size:=(Array.getElem?_eq_some_iff.1 hg).1
  have ain:cur.toList.take (sortedB xs).length=(sortedB xs).map encStr:=by rw[← htk,hl,Nat.mul_one]
  have hc:=AnyG.slices_Compact_string Tryz.compactS g 0 c (sortedB xs) w (holds_of_block hg ain) (by omega) (by omega)
  rw[hl] at hc
  refine hc.mono ?_
  rintro e w' ⟨rfl,k,rfl⟩
  refine⟨rfl,?_⟩
  exact(But.grown (But.refl (fun k=>k=g) w) (Ri _) (fun k hk=>by cases hk;exact .inl rfl)).below' (by omega) (fun i hi=>by subst hi;exact hbg)
theorem JI (F:Nat→Prop) (A:Option Addr) (n c:Nat) (xs:List ByteArray) (w:World) (h:ai F w 1 dL A n c xs) (hbig:n≤1000000) :
  Calls Tryz.prog 75 #[.slice A n c] w fun e w'=>e=.returned (.bool (decide xs.Nodup))∧Below w.heap.size w w':=by
 have hl:=h.len
 have hL:ai (fun b=>b<w.heap.size) w 1 dL A n c xs:=h.conv (Kept.refl _ _) (fun a ha h0 _=>h.lt h0 a ha) (fun _ _ _ h=>h)
 have hb1:Below w.heap.size w (w.alloc (.cells #[.slice A n c] 47)):=(Below.refl _ _).alloc (Nat.le_refl _) _
 have hbx:=Boxed.new w 47 (.slice A n c)
 have Hv:=ae (callsIn_wide.1 (values_in 4 A n c w))
 have Hs:=ae (Rh 135 #[.pointer (some ⟨w.heap.size,0,none⟩)] (enters_of Tryz.func135 (by kernel_rfl) rfl) xs (by omega) _ w.heap.size hb1.size
  (hl▸values_stops 3 (by omega) w.heap.size w.heap.size A n c xs _ (by simp) hbx.cell (hL.below hb1)))
 have ho:decide ((Lib.compact (sortedB xs)).length=n)=decide xs.Nodup:=by
  rw[decide_eq_decide,← hl];exact Q9 xs
 have Ho:=ae ho
 clear ho
 subst hl
 go_enter Tryz.func75,Tryz.ntmps75
 go_wp2_with (first|(go_at_call 106;refine Hv.out.mono ?_;rintro e w1 ⟨rfl,rfl⟩)|(go_at_call 105;refine Hs.out.mono ?_;rintro e w2 ⟨A2,c2,rfl,hrow,hb2⟩;have Hk:=ae (NC _ A2 xs.length c2 xs w2 rfl hbig hrow))|(go_at_call 104;refine Hk.out.mono ?_;rintro e w3 ⟨rfl,hb3⟩))
 go_ret
 refine⟨aI ?_,(hb1.trans (hb2.mono hb1.size)).trans (hb3.mono (hb1.size))⟩
 rw[← Ho.out]
 rw[Bool.eq_iff_iff]
 simp
 omega
open Go.RowKit Go.Afx
theorem kK (s:ByteArray) (w:World) (hs:okS s):Calls Tryz.prog 136 #[.bool true,.string s] w fun x w'=>∃ A n c,x=.returned (.slice A n c)∧ai (fun _=>True) w' 1 dL A n c [s]∧Below w.heap.size w w':=aeK true s w hs
theorem kL (s:ByteArray) (w:World):Calls Tryz.prog 136 #[.bool false,.string s] w fun x w'=>x=.returned (.slice none 0 0)∧w=w':=by
 go_enter Tryz.func136,Tryz.ntmps136
 go_wp2
 go_ret
 exact⟨rfl,rfl⟩
theorem mW (w:World):Calls Tryz.prog 74 #[.slice none 0 0] w fun x w'=>x=.returned (.bool true)∧Below w.heap.size w w':=fJ (fun _=>True) none 0 0 [] w (ai.nil_ _ _ _ _)
theorem gZ (s:ByteArray):lN [s]=aJ s:=by rw[kV];simp
theorem dA {s:ByteArray} (h:noS s=true):s.toList=[]:=by rw[lS] at h;simpa using h
theorem fQ {n:Nat} (h:decide (n=0)=false):((n:Int)==0)=false:=by simp at h ⊢;omega
theorem vK {n:Int} (h:decide (n=0)=false):(n==0)=false:=by simp at h ⊢;omega
theorem str_some {s:ByteArray} (h:noS s=false):s.toList.isEmpty=false:=by rw[lS] at h;exact h
theorem agG {w:World} {g:Nat} {T:TypeId} {op n:Int} {name src:ByteArray} {Ac Ae Ab Al:Option Addr} {nc cc ne ce nb cb nl cl:Nat}
  (h:af w g T #[.int .i64 op,.string name,.string src,.int .i64 n,.slice Ac nc cc,.slice Ae ne ce,.slice Ab nb cb,.slice Al nl cl]) :
  w.cell? ⟨g,1,none⟩=some (.string name)∧w.cell? ⟨g,2,none⟩=some (.string src)∧w.cell? ⟨g,3,none⟩=some (.int .i64 n)∧w.cell? ⟨g,4,none⟩=some (.slice Ac nc cc)∧w.cell? ⟨g,5,none⟩=some (.slice Ae ne ce)∧w.cell? ⟨g,6,none⟩=some (.slice Ab nb cb)∧w.cell? ⟨g,7,none⟩=some (.slice Al nl cl)∧g<w.heap.size:=by
 have h1:=h.cell 1;have h2:=h.cell 2;have h3:=h.cell 3;have h4:=h.cell 4;have h5:=h.cell 5;have h6:=h.cell 6;have h7:=h.cell 7
 simp at h1 h2 h3 h4 h5 h6 h7
 exact⟨h1,h2,h3,h4,h5,h6,h7,h.lt⟩
theorem grow {w W W':World} {o:Obj} (hX:Below (w.heap.size+1) (w.alloc o) W) (hb:Below W.heap.size W W'):Below (w.heap.size+1) (w.alloc o) W' :=
 hX.trans (hb.mono (by have:=hX.size;simp at this;omega))
theorem nD (op:Int) (name src:ByteArray) (n:Int) (Ac Ae Ab Al:Option Addr) (nc cc ne ce nb cb nl cl:Nat) (w:World):Below w.heap.size w (w.alloc (.cells #[.int .i64 op,.string name,.string src,.int .i64 n,.slice Ac nc cc,.slice Ae ne ce,.slice Ab nb cb,.slice Al nl cl] 49))∧Below (w.heap.size+1) (w.alloc (.cells #[.int .i64 op,.string name,.string src,.int .i64 n,.slice Ac nc cc,.slice Ae ne ce,.slice Ab nb cb,.slice Al nl cl] 49)) (w.alloc (.cells #[.int .i64 op,.string name,.string src,.int .i64 n,.slice Ac nc cc,.slice Ae ne ce,.slice Ab nb cb,.slice Al nl cl] 49))∧Hid (∀ W,Below (w.heap.size+1) (w.alloc (.cells #[.int .i64 op,.string name,.string src,.int .i64 n,.slice Ac nc cc,.slice Ae ne ce,.slice Ab nb cb,.slice Al nl cl] 49)) W→W.cell? ⟨w.heap.size,1,none⟩=some (.string name)∧W.cell? ⟨w.heap.size,2,none⟩=some (.string src)∧W.cell? ⟨w.heap.size,3,none⟩=some (.int .i64 n)∧W.cell? ⟨w.heap.size,4,none⟩=some (.slice Ac nc cc)∧W.cell? ⟨w.heap.size,5,none⟩=some (.slice Ae ne ce)∧W.cell? ⟨w.heap.size,6,none⟩=some (.slice Ab nb cb)∧W.cell? ⟨w.heap.size,7,none⟩=some (.slice Al nl cl)∧w.heap.size<W.heap.size) :=
 have hx1:af (w.alloc (.cells #[.int .i64 op,.string name,.string src,.int .i64 n,.slice Ac nc cc,.slice Ae ne ce,.slice Ab nb cb,.slice Al nl cl] 49)) w.heap.size 49 #[.int .i64 op,.string name,.string src,.int .i64 n,.slice Ac nc cc,.slice Ae ne ce,.slice Ab nb cb,.slice Al nl cl]:=af.laid _ _ _
 ⟨(Below.refl _ _).alloc (Nat.le_refl _) _,Below.refl _ _,ae (fun _ hW=>agG (hx1.ag (hW.block _ (Nat.lt_succ_self _))))⟩
theorem ab8 (op:Int) (name src:ByteArray) (n:Int) (Ac Ae Ab Al:Option Addr) (nc cc ne ce nb cb nl cl:Nat) (w:World):Below w.heap.size w (w.alloc (.cells #[.int .i64 op,.string name,.string src,.int .i64 n,.slice Ac nc cc,.slice Ae ne ce,.slice Ab nb cb,.slice Al nl cl] 49))∧(∀ k,Below (w.heap.size+1) (w.alloc (.cells #[.int .i64 op,.string name,.string src,.int .i64 n,.slice Ac nc cc,.slice Ae ne ce,.slice Ab nb cb,.slice Al nl cl] 49)) ((w.alloc (.cells #[.int .i64 op,.string name,.string src,.int .i64 n,.slice Ac nc cc,.slice Ae ne ce,.slice Ab nb cb,.slice Al nl cl] 49)).drewN k))∧Hid (∀ W,Below (w.heap.size+1) (w.alloc (.cells #[.int .i64 op,.string name,.string src,.int .i64 n,.slice Ac nc cc,.slice Ae ne ce,.slice Ab nb cb,.slice Al nl cl] 49)) W→W.cell? ⟨w.heap.size,1,none⟩=some (.string name)∧W.cell? ⟨w.heap.size,2,none⟩=some (.string src)∧W.cell? ⟨w.heap.size,3,none⟩=some (.int .i64 n)∧W.cell? ⟨w.heap.size,4,none⟩=some (.slice Ac nc cc)∧W.cell? ⟨w.heap.size,5,none⟩=some (.slice Ae ne ce)∧W.cell? ⟨w.heap.size,6,none⟩=some (.slice Ab nb cb)∧W.cell? ⟨w.heap.size,7,none⟩=some (.slice Al nl cl)∧w.heap.size<W.heap.size) :=
 have h:=nD op name src n Ac Ae Ab Al nc cc ne ce nb cb nl cl w
 ⟨h.1,fun k=>below_drewN (Below.refl _ _) k,h.2.2⟩
end Go.Proofs.YtjjfkhbajidmdaaGreatDoor
