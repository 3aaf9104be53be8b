/- Parts of this proof, one behind the other: SynF, SynG, SynH, SynQ, SynI. -/
import Derived.Test.YtgbgiknfejpcoaaGreatPx3
import Derived.Deep.RegionHeld3
import Derived.Test.YtgbgiknfejpcoaaGreatPx2
import Derived.Lib.RowBridge
import Derived.Sort.KeysCollected
import Derived.Test.YtgbgiknfejpcoaaGreatShelfS
import Derived.Sort.OwnSorted
import Derived.RangeFuncNested
import Derived.RangeFuncBound
import Derived.RangeFuncCalls
import Derived.RangeFuncLeaves
import Derived.RangeFuncWrites
import Derived.RangeFuncBox
import Derived.Maps.AppendAt
import Derived.Shelf.Abstract
import Derived.Shelf.RegionOpen
import Derived.OwnWalkIn
import Derived.TacticsInMore
import Derived.LoopNIn
import Derived.LoopIn
set_option maxRecDepth 1000000
set_option maxHeartbeats 40000000
namespace Go.Proofs.YtgbgiknfejpcoaaGreat
open Go.RowKit Go.Afx
theorem fields_4 (n:Int) (s name src:ByteArray) (A:Option Addr) (m c:Nat) (w:World) (ok_name:okS name) :
  Calls Tryz.prog 117 #[.agg #[.int .i64 4,.int .i64 n,.string s,.string name,.string src,.slice A m c]] w fun x w'=>x=.returned (.bool (fieldsR 4 n s name src))∧Below w.heap.size w w':=by
 have ha:=fun W=>args_any 4 W
 have hr:rowsB 4=false:=rfl
 rw[hr] at ha
 have Ha:=Lhd ha
 have Hr:=Lhd hr
 clear ha hr
 obtain⟨q,hq⟩:∃ q,freesB [name]=q:=⟨_,rfl⟩
 have hF:=fun (W:World) (g:Nat) (h:LsAt (fun _=>True) W 1 SRow (some ⟨g,0,none⟩) 1 1 [name])=>free_any _ _ _ _ _ W h
 rw[hq] at hF
 have HF:=Lhd hF
 have Hq:=Lhd hq
 clear hF hq
 obtain⟨w1,Hw1⟩:∃ w1,Hid (w1=w.alloc (.cells #[.int .i64 4,.int .i64 n,.string s,.string name,.string src,.slice A m c] 60)):=⟨_,rfl⟩
 obtain⟨w2,Hw2⟩:∃ w2,Hid (w2=w1.alloc (.cells #[.int .i64 0,.int .i64 0,.string { data:=#[] },.string { data:=#[] },.string { data:=#[] },.slice none 0 0] 60)):=⟨_,rfl⟩
 have hx2:IsBlk w2 w.heap.size 60 #[.int .i64 4,.int .i64 n,.string s,.string name,.string src,.slice A m c]:=by rw[Hw2.out,Hw1.out];exact(IsBlk.laid _ _ _).alloc _
 have hy2:IsBlk w2 (w.heap.size+1) 60 #[.int .i64 0,.int .i64 0,.string { data:=#[] },.string { data:=#[] },.string { data:=#[] },.slice none 0 0]:=by rw[Hw2.out,Hw1.out];exact laid_at (by simp) _ _
 have hb2:Below w.heap.size w w2:=by rw[Hw2.out,Hw1.out];exact((Below.refl _ _).alloc (Nat.le_refl _) _).alloc (by simp) _
 have hz2:w2.heap.size=w.heap.size+2:=by rw[Hw2.out,Hw1.out];simp
 have Hz2:=Lhd hz2
 clear hz2
 have hf:=fun (W:World) (hW:Below w2.heap.size w2 W)=>And.intro (hx2.as_was (hW.block _ hx2.lt)) (hy2.as_was (hW.block _ hy2.lt))
 have Hf:=Lhd hf
 clear hf
 have hxl:=hx2.lt
 have hyl:=hy2.lt
 go_enter Tryz.func117,Tryz.ntmps117
 go_wp2_with (go_at_call 116;refine(Ha.out _).mono ?_;rintro x w' ⟨rfl,rfl⟩)
 rw[← Hw1.out,← Hw2.out]
 have x21:=hx2.cell 1
 have x22:=hx2.cell 2
 have x23:=hx2.cell 3
 have x24:=hx2.cell 4
 simp at x21 x22 x23 x24
 go_region_with (go_at_call 135;go_loud (refine(HF.out _ _ (LsAt.drew (strs_one (w:=w2) 9 name rfl ok_name))).mono ?_;rintro x w4 ⟨rfl,hb4⟩;have hb24:Below w2.heap.size w2 w4:=(((Below.refl _ _).alloc (Nat.le_refl _) _).drew).trans (hb4.mono (by simp));have hx4:=(Hf.out w4 hb24).1;have hy4:=(Hf.out w4 hb24).2;have x41:=hx4.cell 1;have x42:=hx4.cell 2;have x43:=hx4.cell 3;have x44:=hx4.cell 4;have y41:=hy4.cell 1;have y42:=hy4.cell 2;have y43:=hy4.cell 3;have y44:=hy4.cell 4;have yf:=hy4.frozen;have xl4:=hx4.lt;have yl4:=hy4.lt;simp at x41 x42 x43 x44 y41 y42 y43 y44))
 all_goals cases q
 all_goals go_wp2
 all_goals
  go_ret
  have hb04:=hb2.trans (hb24.mono hb2.size)
  have hq:=Hq.out
  have hr:=Hr.out
  rw[freesB_all] at hq
  refine⟨ret_bool ?_,?_⟩
  ·clear Hf HF Ha x41 x42 x43 x44 y41 y42 y43 y44 yf
   simp_all [fieldsR,noS_nil]
   try omega
  ·repeat (first|exact hb04|refine Below.drew ?_|refine Below.setCell ?_ (by simp) _)
theorem fields_5 (n:Int) (s name src:ByteArray) (A:Option Addr) (m c:Nat) (w:World) (ok_name:okS name) (ok_s:okS s) :
  Calls Tryz.prog 117 #[.agg #[.int .i64 5,.int .i64 n,.string s,.string name,.string src,.slice A m c]] w fun x w'=>x=.returned (.bool (fieldsR 5 n s name src))∧Below w.heap.size w w':=by
 have ha:=fun W=>args_any 5 W
 have hr:rowsB 5=false:=rfl
 rw[hr] at ha
 have Ha:=Lhd ha
 have Hr:=Lhd hr
 clear ha hr
 obtain⟨q,hq⟩:∃ q,freesB [name,s]=q:=⟨_,rfl⟩
 have hF:=fun (W:World) (g:Nat) (h:LsAt (fun _=>True) W 1 SRow (some ⟨g,0,none⟩) 2 2 [name,s])=>free_any _ _ _ _ _ W h
 rw[hq] at hF
 have HF:=Lhd hF
 have Hq:=Lhd hq
 clear hF hq
 obtain⟨w1,Hw1⟩:∃ w1,Hid (w1=w.alloc (.cells #[.int .i64 5,.int .i64 n,.string s,.string name,.string src,.slice A m c] 60)):=⟨_,rfl⟩
 obtain⟨w2,Hw2⟩:∃ w2,Hid (w2=w1.alloc (.cells #[.int .i64 0,.int .i64 0,.string { data:=#[] },.string { data:=#[] },.string { data:=#[] },.slice none 0 0] 60)):=⟨_,rfl⟩
 have hx2:IsBlk w2 w.heap.size 60 #[.int .i64 5,.int .i64 n,.string s,.string name,.string src,.slice A m c]:=by rw[Hw2.out,Hw1.out];exact(IsBlk.laid _ _ _).alloc _
 have hy2:IsBlk w2 (w.heap.size+1) 60 #[.int .i64 0,.int .i64 0,.string { data:=#[] },.string { data:=#[] },.string { data:=#[] },.slice none 0 0]:=by rw[Hw2.out,Hw1.out];exact laid_at (by simp) _ _
 have hb2:Below w.heap.size w w2:=by rw[Hw2.out,Hw1.out];exact((Below.refl _ _).alloc (Nat.le_refl _) _).alloc (by simp) _
 have hz2:w2.heap.size=w.heap.size+2:=by rw[Hw2.out,Hw1.out];simp
 have Hz2:=Lhd hz2
 clear hz2
 have hf:=fun (W:World) (hW:Below w2.heap.size w2 W)=>And.intro (hx2.as_was (hW.block _ hx2.lt)) (hy2.as_was (hW.block _ hy2.lt))
 have Hf:=Lhd hf
 clear hf
 have hxl:=hx2.lt
 have hyl:=hy2.lt
 go_enter Tryz.func117,Tryz.ntmps117
 go_wp2_with (go_at_call 116;refine(Ha.out _).mono ?_;rintro x w' ⟨rfl,rfl⟩)
 rw[← Hw1.out,← Hw2.out]
 have x21:=hx2.cell 1
 have x22:=hx2.cell 2
 have x23:=hx2.cell 3
 have x24:=hx2.cell 4
 simp at x21 x22 x23 x24
 go_region_held3 (fun w'=>w'.cell? ⟨w.heap.size,3,none⟩=some (.string name)∧w'.cell? ⟨w.heap.size,2,none⟩=some (.string s)) ((first|exact⟨x43,x42⟩|exact⟨(World.cell?_alloc_lt w2 _ ⟨w.heap.size,3,none⟩ hxl).trans x23,(World.cell?_alloc_lt w2 _ ⟨w.heap.size,2,none⟩ hxl).trans x22⟩|(constructor<;>go_simp;done)|(simp[*];done))) (first|(go_at_call 135;go_loud (refine(HF.out _ _ (LsAt.drew (strs_two (w:=w2) 9 name s rfl ok_name ok_s))).mono ?_;rintro x w4 ⟨rfl,hb4⟩;have hb24:Below w2.heap.size w2 w4:=(((Below.refl _ _).alloc (Nat.le_refl _) _).drew).trans (hb4.mono (by simp));have hx4:=(Hf.out w4 hb24).1;have hy4:=(Hf.out w4 hb24).2;have x41:=hx4.cell 1;have x42:=hx4.cell 2;have x43:=hx4.cell 3;have x44:=hx4.cell 4;have y41:=hy4.cell 1;have y42:=hy4.cell 2;have y43:=hy4.cell 3;have y44:=hy4.cell 4;have yf:=hy4.frozen;have xl4:=hx4.lt;have yl4:=hy4.lt;simp at x41 x42 x43 x44 y41 y42 y43 y44)))
 all_goals cases q
 all_goals go_wp2
 all_goals
  go_ret
  have hb04:=hb2.trans (hb24.mono hb2.size)
  have hq:=Hq.out
  have hr:=Hr.out
  rw[freesB_all] at hq
  refine⟨ret_bool ?_,?_⟩
  ·clear Hf HF Ha x41 x42 x43 x44 y41 y42 y43 y44 yf
   simp_all [fieldsR,noS_nil]
   try omega
  ·repeat (first|exact hb04|refine Below.drew ?_|refine Below.setCell ?_ (by simp) _)
theorem fields_rows (op n:Int) (s name src:ByteArray) (A:Option Addr) (m c:Nat) (w:World) (hop:21≤op) (hop2:op≤24) (ok_name:okS name) (ok_src:okS src) :
  Calls Tryz.prog 117 #[.agg #[.int .i64 op,.int .i64 n,.string s,.string name,.string src,.slice A m c]] w fun x w'=>x=.returned (.bool (fieldsR op n s name src))∧Below w.heap.size w w':=by
 have ha:=fun W=>args_any op W
 have hr:rowsB op=true:=by simp[rowsB];omega
 rw[hr] at ha
 have Ha:=Lhd ha
 have Hr:=Lhd hr
 clear ha hr
 have e1:(op==1)=false:=by simp;omega
 have e2:(op==2)=false:=by simp;omega
 have e3:(op==3)=false:=by simp;omega
 have e4:(op==4)=false:=by simp;omega
 have e5:(op==5)=false:=by simp;omega
 obtain⟨q,hq⟩:∃ q,freesB [name,src]=q:=⟨_,rfl⟩
 have hF:=fun (W:World) (g:Nat) (h:LsAt (fun _=>True) W 1 SRow (some ⟨g,0,none⟩) 2 2 [name,src])=>free_any _ _ _ _ _ W h
 rw[hq] at hF
 have HF:=Lhd hF
 have Hq:=Lhd hq
 clear hF hq
 obtain⟨w1,Hw1⟩:∃ w1,Hid (w1=w.alloc (.cells #[.int .i64 op,.int .i64 n,.string s,.string name,.string src,.slice A m c] 60)):=⟨_,rfl⟩
 obtain⟨w2,Hw2⟩:∃ w2,Hid (w2=w1.alloc (.cells #[.int .i64 0,.int .i64 0,.string { data:=#[] },.string { data:=#[] },.string { data:=#[] },.slice none 0 0] 60)):=⟨_,rfl⟩
 have hx2:IsBlk w2 w.heap.size 60 #[.int .i64 op,.int .i64 n,.string s,.string name,.string src,.slice A m c]:=by rw[Hw2.out,Hw1.out];exact(IsBlk.laid _ _ _).alloc _
 have hy2:IsBlk w2 (w.heap.size+1) 60 #[.int .i64 0,.int .i64 0,.string { data:=#[] },.string { data:=#[] },.string { data:=#[] },.slice none 0 0]:=by rw[Hw2.out,Hw1.out];exact laid_at (by simp) _ _
 have hb2:Below w.heap.size w w2:=by rw[Hw2.out,Hw1.out];exact((Below.refl _ _).alloc (Nat.le_refl _) _).alloc (by simp) _
 have hz2:w2.heap.size=w.heap.size+2:=by rw[Hw2.out,Hw1.out];simp
 have Hz2:=Lhd hz2
 clear hz2
 have hf:=fun (W:World) (hW:Below w2.heap.size w2 W)=>And.intro (hx2.as_was (hW.block _ hx2.lt)) (hy2.as_was (hW.block _ hy2.lt))
 have Hf:=Lhd hf
 clear hf
 have hxl:=hx2.lt
 have hyl:=hy2.lt
 go_enter Tryz.func117,Tryz.ntmps117
 go_wp2_with (go_at_call 116;refine(Ha.out _).mono ?_;rintro x w' ⟨rfl,rfl⟩)
 rw[← Hw1.out,← Hw2.out]
 have x21:=hx2.cell 1
 have x22:=hx2.cell 2
 have x23:=hx2.cell 3
 have x24:=hx2.cell 4
 simp at x21 x22 x23 x24
 go_region_held3 (fun w'=>w'.cell? ⟨w.heap.size,3,none⟩=some (.string name)∧w'.cell? ⟨w.heap.size,4,none⟩=some (.string src)) ((first|exact⟨x43,x44⟩|exact⟨(World.cell?_alloc_lt w2 _ ⟨w.heap.size,3,none⟩ hxl).trans x23,(World.cell?_alloc_lt w2 _ ⟨w.heap.size,4,none⟩ hxl).trans x24⟩|(constructor<;>go_simp;done)|(simp[*];done))) (first|(go_at_call 135;go_loud (refine(HF.out _ _ (LsAt.drew (strs_two (w:=w2) 9 name src rfl ok_name ok_src))).mono ?_;rintro x w4 ⟨rfl,hb4⟩;have hb24:Below w2.heap.size w2 w4:=(((Below.refl _ _).alloc (Nat.le_refl _) _).drew).trans (hb4.mono (by simp));have hx4:=(Hf.out w4 hb24).1;have hy4:=(Hf.out w4 hb24).2;have x41:=hx4.cell 1;have x42:=hx4.cell 2;have x43:=hx4.cell 3;have x44:=hx4.cell 4;have y41:=hy4.cell 1;have y42:=hy4.cell 2;have y43:=hy4.cell 3;have y44:=hy4.cell 4;have yf:=hy4.frozen;have xl4:=hx4.lt;have yl4:=hy4.lt;simp at x41 x42 x43 x44 y41 y42 y43 y44)))
 all_goals cases q
 all_goals go_wp2
 all_goals
  go_ret
  have hb04:=hb2.trans (hb24.mono hb2.size)
  have hq:=Hq.out
  have hr:=Hr.out
  rw[freesB_all] at hq
  refine⟨ret_bool ?_,?_⟩
  ·clear Hf HF Ha x41 x42 x43 x44 y41 y42 y43 y44 yf
   simp_all [fieldsR,noS_nil]
   try omega
  ·repeat (first|exact hb04|refine Below.drew ?_|refine Below.setCell ?_ (by simp) _)
theorem fields_any (op n:Int) (s name src:ByteArray) (A:Option Addr) (m c:Nat) (w:World) (h1:okS name) (h2:okS s) (h3:okS src) :
  Calls Tryz.prog 117 #[.agg #[.int .i64 op,.int .i64 n,.string s,.string name,.string src,.slice A m c]] w fun x w'=>x=.returned (.bool (fieldsR op n s name src))∧Below w.heap.size w w':=by
 by_cases e1:op=1
 ·subst e1;exact fields_1 n s name src A m c w
 by_cases e2:op=2
 ·subst e2;exact fields_2 n s name src A m c w
 by_cases e3:op=3
 ·subst e3;exact fields_3 n s name src A m c w
 by_cases e4:op=4
 ·subst e4;exact fields_4 n s name src A m c w h1
 by_cases e5:op=5
 ·subst e5;exact fields_5 n s name src A m c w h1 h2
 by_cases er:21≤op∧op≤24
 ·exact fields_rows op n s name src A m c w er.1 er.2 h1 h3
 ·exact fields_other n s name src A m c w op (by omega) (by omega)
def BuiltsE (F:Nat→Prop) (d:Nat):Prop:=∀ (e:Ex) (row:List Value) (w:World),ExAt F d w row e →
 Calls Tryz.prog 73 #[.agg row.toArray] w fun x w'=>x=.returned (.bool (builtE d e))∧Below w.heap.size w w'
theorem builtC_any (F:Nat→Prop) (d:Nat) (ih:BuiltsE F d) (e:Ex) (row:List Value) (w:World) (h:ExAt F d w row e) :
  Calls Tryz.prog 119 #[.agg row.toArray] w fun x w'=>x=.returned (.bool (!builtE d e))∧Below w.heap.size w w':=by
 cases d with
 | zero=>exact h.elim
 | succ d =>
  have h':=h
  obtain⟨A,m,c,rfl,hl⟩:=h.open_.2.2.2.2.2
  have hb1:Below w.heap.size w (w.alloc (.cells #[.int .i64 e.op,.int .i64 e.n,.string e.s,.string e.name,.string e.src,.slice A m c] 60)):=(Below.refl _ _).alloc (Nat.le_refl _) _
  have Hc:=Lhd (ih e _ _ (h'.below hb1))
  generalize builtE (d+1) e=r at *
  go_enter Tryz.func119,Tryz.ntmps119
  go_wp2_with (go_at_call 73;refine Hc.out.mono ?_;rintro x w1 ⟨rfl,hb⟩)
  go_ret
  exact⟨ret_bool (by simp),hb1.trans (hb.mono hb1.size)⟩
theorem indexBuilt_any (F:Nat→Prop) (d:Nat) (ih:BuiltsE F d) (A:Option Addr) (n c:Nat) (es:List Ex) (w:World) (h:ExsAt F d w A n c es) :
  Calls Tryz.prog 165 #[.slice A n c,.func (.func 119) #[] #[]] w fun x w'=>x=.returned (.int .i64 (posB (fun e=>!builtE d e) es))∧Below w.heap.size w w':=by
 have hn:=LsAt.n_le h
 have Hl:=Lhd (LsAt.len h)
 go_enter Tryz.func165,Tryz.ntmps165
 go_wp2
 go_loopw [8] (fun i wr=>∃ k:Nat,k≤n∧i=.int .i64 k∧(∀ y∈es.take k,(!builtE d y)=false)∧Below w.heap.size w wr) (fun i _=>n-(intOf i).toNat)
 case atStart=>exact⟨0,Nat.zero_le _,rfl,by simp,Below.refl _ _⟩
 case round =>
  obtain⟨k,hk,rfl,hall,hb⟩:=hrel
  have Hall:=Lhd hall;clear hall
  by_cases hlt:k<n
  ·cases d with
   | zero =>
    obtain⟨b,o,r,e,hA,hbl,_,he,hl,hp,hc⟩:=LsAt.get (h.below hb) hlt
    exact hp.elim
   | succ d =>
    obtain⟨b,o,e,A2,m2,c2,rfl,hbl,hx,hc0,hc1,hc2,hc3,hc4,hc5,hp,_⟩:=ExsAt.get (h.below hb) hlt
    have hc:=builtC_any F (d+1) ih e _ wr hp
    obtain⟨q,hq⟩:∃ q,(!builtE (d+1) e)=q:=⟨_,rfl⟩
    rw[hq] at hc
    have Hc:=Lhd hc
    have Hq:=Lhd hq
    have Hx:=Lhd hx
    clear hc hq hx
    cases q
    ·have Hnx:=Lhd (mem_take_succ Hx.out Hall.out Hq.out)
     go_wp2_with (go_at_call 119;refine Hc.out.mono ?_;rintro y w1 ⟨rfl,hb1⟩)
     go_roundw
     case rel=>exact⟨k+1,by omega,by go_num,Hnx.out,hb.trans (hb1.mono hb.size)⟩
     case measure=>simp[intOf];omega
    ·have Hf:=Lhd (posB_yes (p:=fun e=>!builtE (d+1) e) Hx.out Hq.out Hall.out)
     go_wp2_with (go_at_call 119;refine Hc.out.mono ?_;rintro y w1 ⟨rfl,hb1⟩)
     go_ret
     exact⟨by rw[Hf.out];rfl,hb.trans (hb1.mono hb.size)⟩
  ·go_wp2
   go_ret
   have h1:=Hall.out
   rw[List.take_of_length_le (by rw[Hl.out];omega)] at h1
   exact⟨by rw[posB_no h1];rfl,hb⟩
theorem containsBuilt_any (F:Nat→Prop) (d:Nat) (ih:BuiltsE F d) (A:Option Addr) (n c:Nat) (es:List Ex) (w:World) (h:ExsAt F d w A n c es) :
  Calls Tryz.prog 118 #[.slice A n c,.func (.func 119) #[] #[]] w fun x w'=>x=.returned (.bool (!es.all (builtE d)))∧Below w.heap.size w w':=by
 have hi:=indexBuilt_any F d ih A n c es w h
 have hp:=posB_any (fun e=>!builtE d e) es
 have hq:(es.any fun e=>!builtE d e) = !es.all (builtE d):=by
  induction es with
  | nil=>rfl
  | cons a r _=>simp[List.any_eq_not_all_not]
 rw[hq] at hp
 generalize es.all (builtE d)=r at *
 generalize posB (fun e=>!builtE d e) es=i at *
 have Hp:=Lhd hp
 have Hi:=Lhd hi
 clear hp hi hq
 go_enter Tryz.func118,Tryz.ntmps118
 go_wp2_with (go_at_call 165;refine Hi.out.mono ?_;rintro x w' ⟨rfl,hb⟩)
 go_ret
 exact⟨ret_bool Hp.out,hb⟩
theorem builtE_any (F:Nat→Prop) (d:Nat):BuiltsE F d:=by
 induction d with
 | zero=>intro e row w h;exact h.elim
 | succ d ih =>
  intro e row w h
  obtain⟨ho,hn,hs,hnm,hsr,A,m,c,rfl,hl⟩:=h.open_
  have hlen:=LsAt.len hl
  have hb1:Below w.heap.size w (w.alloc (.cells #[.int .i64 e.op,.int .i64 e.n,.string e.s,.string e.name,.string e.src,.slice A m c] 60)):=(Below.refl _ _).alloc (Nat.le_refl _) _
  have hx1:IsBlk (w.alloc (.cells #[.int .i64 e.op,.int .i64 e.n,.string e.s,.string e.name,.string e.src,.slice A m c] 60)) w.heap.size 60 #[.int .i64 e.op,.int .i64 e.n,.string e.s,.string e.name,.string e.src,.slice A m c]:=IsBlk.laid _ _ _
  have Hx1:=Lhd hx1
  have Ha:=Lhd (args_any e.op)
  have Hf:=Lhd (fun W=>fields_any e.op e.n e.s e.name e.src A m c W hnm hs hsr)
  have Hc:=Lhd (fun W (hW:Below w.heap.size w W)=>containsBuilt_any F d ih A m c e.args W (hl.below hW))
  have hfin:builtE (d+1) e=(decide (arityB e.op=(m:Int))&&fieldsR e.op e.n e.s e.name e.src&&e.args.all (builtE d)):=by
   rw[← hlen];rfl
  generalize fieldsR e.op e.n e.s e.name e.src=q at *
  generalize e.args.all (builtE d)=r at *
  generalize builtE (d+1) e=fin at *
  have Hfin:=Lhd hfin
  clear hfin hlen hx1
  generalize arityB e.op=ar at *
  by_cases har:ar=(m:Int)
  ·have hb:(ar==(m:Int))=true:=by simpa using har
   have Har:=Lhd har
   clear har
   cases q
   ·go_enter Tryz.func73,Tryz.ntmps73
    go_wp2_with (first|(go_at_call 116;refine(Ha.out _).mono ?_;rintro x w' ⟨rfl,rfl⟩)|(go_at_call 117;refine(Hf.out _).mono ?_;rintro x w2 ⟨rfl,hb2⟩))
    go_ret
    exact⟨ret_bool (by rw[Hfin.out];simp),hb1.trans (hb2.mono hb1.size)⟩
   ·go_enter Tryz.func73,Tryz.ntmps73
    go_wp2_with (first|(go_at_call 116;refine(Ha.out _).mono ?_;rintro x w' ⟨rfl,rfl⟩)|(go_at_call 117;refine(Hf.out _).mono ?_;rintro x w2 ⟨rfl,hb2⟩;have hb02:=hb1.trans (hb2.mono hb1.size);have hx2:=Hx1.out.as_was (hb2.block _ Hx1.out.lt);have x25:=hx2.cell 5;simp at x25)|(go_at_call 118;refine(Hc.out _ hb02).mono ?_;rintro x w3 ⟨rfl,hb3⟩))
    go_ret
    exact⟨ret_bool (by rw[Hfin.out];simp[Har.out]),hb02.trans (hb3.mono hb02.size)⟩
  ·have hb:(ar==(m:Int))=false:=by simpa using har
   have Har:=Lhd har
   clear har
   go_enter Tryz.func73,Tryz.ntmps73
   go_wp2_with (go_at_call 116;refine(Ha.out _).mono ?_;rintro x w' ⟨rfl,rfl⟩)
   go_ret
   exact⟨ret_bool (by rw[Hfin.out];simp[Har.out]),hb1⟩
theorem has_any (ok:Bool) (s:ByteArray) (w:World) (hs:okS s):Calls Tryz.prog 200 #[.bool ok,.string s] w fun x w'=>∃ A n c,x=.returned (.slice A n c)∧LsAt (fun _=>True) w' 1 SRow A n c (if ok then [s] else [])∧Below w.heap.size w w':=by
 cases ok
 ·go_enter Tryz.func200,Tryz.ntmps200
  go_wp2
  go_ret
  exact⟨none,0,0,rfl,LsAt.nil_ _ _ _ _,Below.refl _ _⟩
 ·go_enter Tryz.func200,Tryz.ntmps200
  go_wp2
  go_ret
  exact⟨_,1,1,rfl,strs_one 9 s rfl hs,(Below.refl _ _).alloc (Nat.le_refl _) _⟩
theorem within_any (n lo hi:Int) (w:World):Calls Tryz.prog 134 #[.int .i64 n,.int .i64 lo,.int .i64 hi] w fun x w'=>x=.returned (.bool (decide (lo≤n)&&decide (n≤hi)))∧w=w':=by
 go_enter Tryz.func134,Tryz.ntmps134
 go_wp2
 all_goals
  go_ret
  refine⟨ret_bool ?_,rfl⟩
  rw[Bool.eq_iff_iff]
  simp
  try omega
end Go.Proofs.YtgbgiknfejpcoaaGreat
namespace Go.Afx
open Go.RowKit Go.Proofs
theorem sort_rises (l:List (List UInt8)):(l.mergeSort fun x y=>decide (x≤y)).Pairwise (fun x y=>x≤y):=by
 have tr:∀ a b c:List UInt8,decide (a≤b)=true→decide (b≤c)=true→decide (a≤c)=true:=fun a b c h1 h2=>by simp only[decide_eq_true_eq] at *;exact List.le_trans h1 h2
 have tt:∀ a b:List UInt8,(decide (a≤b)||decide (b≤a))=true:=fun a b=>by simp only[Bool.or_eq_true,decide_eq_true_eq];exact List.le_total a b
 exact(List.pairwise_mergeSort tr tt l).imp fun h=>by simpa using h
theorem compact_once {ss:List (List UInt8)} (hs:ss.Pairwise (fun x y=>x≤y)):(Lib.compact ss).length=ss.length ↔ ss.Nodup:=by
 have e:(Lib.compact ss).length=ss.length ↔ ∀ j,j<ss.length→Lib.keeps ss.toArray j=true:=by
  unfold Lib.compact Lib.compactUpTo
  rw[List.length_map]
  have h1:=List.length_filter_eq_length_iff (p:=Lib.keeps ss.toArray) (l:=List.range ss.length)
  rw[List.length_range] at h1
  rw[h1]
  simp
 rw[e]
 have g:∀ j,j<ss.length→ss.toArray[j]! = ss[j]!:=fun j hj=>by simp[getElem!_pos,hj]
 constructor
 ·intro h
  refine List.pairwise_iff_getElem.2 fun i j hi hj hij he=>?_
  have h1:=h j hj
  simp only[Lib.keeps,decide_eq_true_eq] at h1
  rw[g j hj,g (j-1) (by omega),getElem!_pos ss j hj,getElem!_pos ss (j-1) (show j-1<ss.length by omega)] at h1
  have h3:ss[j-1]≤ss[j]:=List.pairwise_iff_getElem.1 hs (j-1) j (by omega) hj (by omega)
  have h2:ss[i]≤ss[j-1]:=by
   by_cases hi':i=j-1
   ·subst hi';exact List.le_refl _
   ·exact List.pairwise_iff_getElem.1 hs i (j-1) hi (by omega) (by omega)
  rw[he] at h2
  rcases h1 with h1|h1
  ·omega
  ·exact h1 (List.le_antisymm h2 h3)
 ·intro h j hj
  simp only[Lib.keeps,decide_eq_true_eq]
  by_cases h0:j=0
  ·exact .inl h0
  ·refine .inr fun he=>?_
   rw[g j hj,g (j-1) (by omega),getElem!_pos ss j hj,getElem!_pos ss (j-1) (show j-1<ss.length by omega)] at he
   exact List.pairwise_iff_getElem.1 h (j-1) j (by omega) hj (by omega) he.symm
def bytesL (xs:List ByteArray):List (List UInt8):=xs.map (·.data.toList)
theorem bytesL_length (xs:List ByteArray):(bytesL xs).length=xs.length:=by simp[bytesL]
theorem data_inj {a b:ByteArray} (h:a.data.toList=b.data.toList):a=b:=by
 cases a;cases b;simp at h;subst h;rfl
theorem bytesL_enc (xs:List ByteArray):(bytesL xs).map encStr=xs.map Value.string:=by simp[bytesL,encStr]
theorem bytesL_nodup (xs:List ByteArray):(bytesL xs).Nodup ↔ xs.Nodup:=by
 unfold bytesL List.Nodup
 rw[List.pairwise_map]
 exact⟨fun h=>h.imp fun h e=>h (by rw[e]),fun h=>h.imp fun h e=>h (data_inj e)⟩
theorem once_sorted (xs:List ByteArray):(Lib.compact ((bytesL xs).mergeSort fun x y=>decide (x≤y))).length=xs.length ↔ xs.Nodup:=by
 rw[← bytesL_nodup,← (List.mergeSort_perm (bytesL xs) fun x y=>decide (x≤y)).nodup_iff,← compact_once (sort_rises _),List.length_mergeSort,bytesL_length]
end Go.Afx
namespace Go.Proofs.YtgbgiknfejpcoaaGreat
open Go.RowKit Go.Afx Go.Shelf Go.Sort
theorem take_succ_of' {α:Type} {l:List α} {k:Nat} {x:α} (h:l[k]?=some x):l.take (k+1)=l.take k++[x]:=by
 obtain⟨hk,rfl⟩:=List.getElem?_eq_some_iff.1 h
 exact List.take_succ_eq_append_getElem hk
section
attribute [local go_sem] Oper.semAt_some
theorem values1_in (d:Nat) (hd:1≤d) (l Bs n₀:Nat) (A:Option Addr) (n c:Nat) (xs:List ByteArray) (J Jx:List ByteArray→World→Prop)
  (hY:∀ pre x W,J pre W→pre.length<n→YieldAt Fence.wide (d-1) Tryz.prog l #[.string x] W fun e W' =>
   (e=.returned (.bool true)∧J (pre++[x]) W'∧Below n₀ W W')∨(e=.returned (.bool false)∧Jx (pre++[x]) W'))
  (W:World) (hBs:W.cell? ⟨Bs,0,none⟩=some (.slice A n c)) (hL:LsAt (fun b=>b<n₀) W 1 SRow A n c xs) (h0:J [] W) :
  CallsIn Fence.wide d Tryz.prog 199 #[.func (.yield l) #[] #[],.pointer (some ⟨Bs,0,none⟩)] W fun e W'=>(∃ v,e=.returned v) ∧
   ((∃ ys,ys=xs∧J ys W')∨(∃ pre,True∧Jx pre W')):=by
 have hn:=hL.n_le
 have Hl:=Lhd hL.len
 refine callsIn_of_wp Tryz.func199 rfl trivial ?_ rfl
 simp only[Tryz.ntmps199,List.size_toArray,List.length_cons,List.length_nil,Nat.reduceAdd,Nat.reduceSub,Array.replicate_succ,Array.replicate_zero,List.push_toArray,List.append_toArray,List.nil_append,List.cons_append]
 gi_wp2
 gi_loopw [7] (fun i wr=>∃ k:Nat,k≤n∧i=.int .i64 k∧J (xs.take k) wr∧Below n₀ W wr) (fun i _=>n-(intOf i).toNat)
 case atStart=>exact⟨0,Nat.zero_le _,rfl,by simpa using h0,Below.refl _ _⟩
 case round =>
  obtain⟨k,hk,rfl,hJs,hnx⟩:=hrel
  by_cases hlt:k<n
  ·obtain⟨b,o,r,x,rfl,hbl,hb0,hx,hrl,⟨rfl,hs⟩,hc⟩:=hL.get hlt
   have hcx:wr.cell? ⟨b,o+k,none⟩=some (.string x):=(hnx.cell (p:=⟨b,o+k,none⟩) hb0).trans (by simpa using hc 0 _ rfl)
   have Hx:=Lhd (take_succ_of' hx)
   clear hc hx
   obtain⟨fn,tmps,assign,body,hy,hR⟩:=hY _ x wr hJs (by rw[List.length_take];omega)
   gi_wp2
   refine hR.mono ?_
   rintro e W3 (⟨rfl,hJ3,hk3⟩|⟨rfl,hJx3⟩)
   ·gi_wp2
    go_roundw
    case rel=>exact⟨k+1,by omega,by simp,by rw[Hx.out];exact hJ3,hnx.trans hk3⟩
    case measure=>simp[intOf];omega
   ·gi_wp2
    refine bodyPost_ret (results_none rfl _ _ _) rfl ?_
    exact⟨⟨_,rfl⟩,.inr ⟨_,trivial,hJx3⟩⟩
  ·obtain rfl:k=n:=by omega
   gi_wp2
   go_end0
   rw[List.take_of_length_le (by rw[Hl.out];omega)] at hJs
   exact⟨⟨_,rfl⟩,.inl ⟨_,rfl,hJs⟩⟩
theorem values_in (d:Nat) (A:Option Addr) (n c:Nat) (w:World) :
  CallsIn Fence.wide d Tryz.prog 175 #[.slice A n c] w fun e w'=>e=.returned (.func (.func 199) #[] #[.pointer (some ⟨w.heap.size,0,none⟩)])∧w'=w.alloc (.cells #[.slice A n c] 53):=by
 refine callsIn_of_wp Tryz.func175 rfl trivial ?_ rfl
 simp only[Tryz.ntmps175,List.size_toArray,List.length_cons,List.length_nil,Nat.reduceAdd,Nat.reduceSub,Array.replicate_succ,Array.replicate_zero,List.push_toArray,List.append_toArray,List.nil_append,List.cons_append]
 gi_wp2
 go_ret
 exact⟨rfl,rfl⟩
theorem values_stops (d:Nat) (hd:1≤d) (Bs n₀:Nat) (A:Option Addr) (n c:Nat) (xs:List ByteArray) (w:World) (hBs:Bs<w.heap.size)
  (hc:w.cell? ⟨Bs,0,none⟩=some (.slice A n c)) (hL:LsAt (fun b=>b<n₀) w 1 SRow A n c xs) :
  SeqStopsK Fence.wide d Tryz.prog 199 #[.pointer (some ⟨Bs,0,none⟩)] (fun x:ByteArray=>#[Value.string x]) (Below n₀) (fun ys=>ys=xs) (fun _=>True) n w:=fun l J Jx W hW _ _ hY h0 =>
 values1_in d hd l Bs n₀ A n c xs J Jx hY W ((hW.cell (p:=⟨Bs,0,none⟩) hBs).trans hc) (hL.below hW) h0
theorem tyStr:ElemTy Tryz.prog 53 9 1 16 (.string ByteArray.empty):=⟨Tryz.underlying53,by kernel_rfl,rfl,by decide⟩
theorem appendSeq_in (d:Nat) (hd:3≤d) (g:Nat) (lb:Array Value) (eg:∀ args w,(callFunc g args).run Tryz.prog w=.ok (.enter g args) w) (xs:List ByteArray) (hN:xs.length≤maxLen) (hNb:xs.length*16≤140737488355328) (w:World) (n₀:Nat) (hn₀:n₀≤w.heap.size)
  (hseq:SeqStopsK Fence.wide (d-1) Tryz.prog g lb (fun x:ByteArray=>#[Value.string x]) (Below n₀) (fun ys=>ys=xs) (fun _=>True) xs.length w) :
  CallsIn Fence.wide d Tryz.prog 183 #[.slice none 0 0,.func (.func g) #[] lb] w fun e W'=>∃ v,e=.returned v∧W'.ownsRow w.heap.size 9 1 v xs.length (xs.map Value.string)∧(v=.slice none 0 0 ↔ xs=[])∧Below w.heap.size w W':=by
 have h1:1≤d:=by omega
 obtain⟨i0,hi,hz0,hz1,hz2⟩:=tyStr.at_
 refine callsIn_of_wp_marks Tryz.func183 rfl trivial ?_ rfl
 simp only[Tryz.ntmps183,List.size_toArray,List.length_cons,List.length_nil,Nat.reduceAdd,Nat.reduceSub,Array.replicate_succ,Array.replicate_zero,List.push_toArray,List.append_toArray,List.nil_append,List.cons_append]
 gi_wp2
 have bO:=Boxed.new w 53 (.slice none 0 0)
 have hB0:Below w.heap.size w (w.alloc (.cells #[.slice none 0 0] 53)):=(Below.refl _ w).alloc (Nat.le_refl _) _
 refine wpIn_rangeFunc_ownG rfl h1 (gf:=g) (lb:=lb) rfl trivial eg hseq belowK_t (belowK_b (by simp;omega)) hB0 (fun _=>rfl)
  (fun pre W=>(∃ v,Boxed W w.heap.size 53 v∧W.ownsRow w.heap.size 9 1 v pre.length (pre.map Value.string)∧(v=.slice none 0 0 ↔ pre=[]))∧Below w.heap.size w W)
  (fun _ _ _=>False)
  (OwnFrom.and (Own.from (holdsRow_own w.heap.size w.heap.size 53 9 1 (fun pre=>pre.length) (fun pre=>pre.map Value.string) (fun pre v=>v=.slice none 0 0 ↔ pre=[])) _) (ownFrom_below (Nat.le_refl _) (by simp)))
  (fun _ _ _ _ _ hs _ _=>hs)
  ⟨⟨_,bO,World.ownsRow_nil _ _ _ _,by simp⟩,hB0⟩
  (fun x=>{ tmps:=#[.slice none 0 0,.func (.func g) #[] lb,.pointer (some ⟨w.heap.size,0,none⟩),undef,.slice none 0 0,.string x,.func (.func g) #[] lb,.string x,undef,undef,undef,undef,undef],defers:=[] }) ?assign ?body ?done ?stop
 case assign =>
  intro l x W K hK
  gi_wp2
  exact hK
 case body =>
  rintro l pre x W ⟨⟨v,hv,hrow,hnil⟩,hB⟩ hlt
  have hc:=hv.cell
  gi_wp2_with (gi_at_builtin;refine wpListIn_append_own _ rfl _ _ 53 rfl w.heap.size 9 i0 (.string ByteArray.empty) 1 16 Tryz.underlying53 hi hz0 hz1 hz2 rfl (by decide) _ _ _ rfl (hrow.alloc _) ⟨W.heap.size,0,none⟩ 1 1 [.string x] rfl rfl (cell_one_new _ _ _) (by simp[Value.oneCell']) (by omega) (by omega) (by have:=hB.size;simp;omega) ?_;intro v' w1 hown' hgrow _;obtain⟨g',cap',rfl⟩:=ownsRow_succ hown';obtain⟨hv1,hv2,hr2,hk2,hb2⟩:=hv.appended (by decide) hrow hB.size (Nat.le_refl _) hown' hgrow;have hc1:=hv1.cell;have hf1:=hv1.frozen)
  exact⟨hk2.from _,hb2.mono hn₀,⟨_,hv2,by simpa using hr2,by simp⟩,hB.trans hb2⟩
 case done =>
  rintro D ys W hD rfl ⟨⟨v,hv,hrow,hnil⟩,hB⟩ hK
  have hc:=hv.cell
  gi_wp2
  refine⟨by simp,.inl ⟨_,_,rfl,run_takeDeferred hK,?_⟩⟩
  exact⟨_,results_tmp rfl _ _ _,v,rfl,ownsRow_putObj hrow _ hK rfl,hnil,hB.trans (belowK_b (w:=w) (Nat.le_refl _) W D _ _ (by simp at hD;omega) hK rfl rfl)⟩
 case stop =>
  rintro D c pre W _ _ h _
  exact h.elim
end
theorem collect_any (g:Nat) (lb:Array Value) (eg:∀ args w,(callFunc g args).run Tryz.prog w=.ok (.enter g args) w) (xs:List ByteArray) (hN:xs.length≤1000000) (w:World) (n₀:Nat) (hn₀:n₀≤w.heap.size)
  (hseq:SeqStopsK Fence.wide 3 Tryz.prog g lb (fun x:ByteArray=>#[Value.string x]) (Below n₀) (fun ys=>ys=xs) (fun _=>True) xs.length w) :
  Calls Tryz.prog 149 #[.func (.func g) #[] lb] w fun e W'=>∃ v,e=.returned v∧W'.ownsRow w.heap.size 9 1 v xs.length (xs.map Value.string)∧(v=.slice none 0 0 ↔ xs=[])∧Below w.heap.size w W':=by
 have Hc:=Lhd (callsIn_wide.1 (appendSeq_in 4 (by omega) g lb eg xs (by unfold maxLen;omega) (by omega) w n₀ hn₀ hseq))
 go_enter Tryz.func149,Tryz.ntmps149
 go_wp2_with (go_at_call 183;refine Hc.out.mono ?_;rintro e w1 ⟨v,rfl,hrow,hnil,hb⟩)
 go_ret
 exact⟨v,rfl,hrow,hnil,hb⟩
def sortedB (xs:List ByteArray):List (List UInt8):=(bytesL xs).mergeSort fun x y=>decide (x≤y)
theorem sortS_any (base:Nat) (A:Option Addr) (n c:Nat) (xs:List ByteArray) (w:World) (hn:xs.length=n) (hbig:n≤1000000) (hown:w.ownsRow base 9 1 (.slice A n c) n (xs.map Value.string)) :
  Calls Tryz.prog 150 #[.slice A n c] w fun e w'=>e=.returned (.tuple #[])∧w'.ownsRow base 9 1 (.slice A n c) n ((sortedB xs).map encStr)∧Below base w w':=by
 subst hn
 rcases hown.2 with ⟨hv,h0⟩|⟨g,cap,cur,hv,hbg,hg,hnc,hcm,hcs,htk⟩
 ·injection hv with h1 h2 h3
  subst h1 h3
  have hx:xs=[]:=List.eq_nil_of_length_eq_zero h0
  subst hx
  refine(AnyM.slices_Sort_string_none Tryz.sortS none 0 w).mono ?_
  rintro e w' ⟨rfl,rfl⟩
  exact⟨rfl,by rw[show sortedB []=[] by simp[sortedB,bytesL]];exact hown,Below.refl _ _⟩
 ·injection hv with h1 h2 h3
  subst h1 h3
  have hlt:g<w.heap.size:=(Array.getElem?_eq_some_iff.1 hg).1
  have hl:(bytesL xs).length=xs.length:=bytesL_length xs
  have htk':cur.toList.take (bytesL xs).length=(bytesL xs).map encStr:=by rw[bytesL_enc,← htk,hl,Nat.mul_one]
  have hc:=AnyM.slices_Sort_string Tryz.sortS g 0 c (bytesL xs) w (holds_of_block hg htk') hlt (by omega)
  rw[hl] at hc
  refine hc.mono ?_
  rintro e w' ⟨rfl,k,os,rfl⟩
  refine⟨rfl,?_,?_⟩
  ·have h:=ownsRow_sorted (ss:=bytesL xs) (ts:=sortedB xs) (n:=k) (os:=os) (List.length_mergeSort _) hbg hg (by omega) hcm hcs
   rw[hl] at h
   exact h
  ·exact(But.grown (But.refl (fun k=>k=g) w) (grownBy_sorted _) (fun k hk=>by cases hk;exact .inl rfl)).below' (by omega) (fun i hi=>by subst hi;exact hbg)
theorem sortedS_any (g:Nat) (lb:Array Value) (eg:∀ args w,(callFunc g args).run Tryz.prog w=.ok (.enter g args) w) (xs:List ByteArray) (hN:xs.length≤1000000) (w:World) (n₀:Nat) (hn₀:n₀≤w.heap.size)
  (hseq:SeqStopsK Fence.wide 3 Tryz.prog g lb (fun x:ByteArray=>#[Value.string x]) (Below n₀) (fun ys=>ys=xs) (fun _=>True) xs.length w) :
  Calls Tryz.prog 97 #[.func (.func g) #[] lb] w fun e W'=>∃ A c,e=.returned (.slice A xs.length c)∧W'.ownsRow w.heap.size 9 1 (.slice A xs.length c) xs.length ((sortedB xs).map encStr)∧Below w.heap.size w W':=by
 have Hc:=Lhd (collect_any g lb eg xs hN w n₀ hn₀ hseq)
 go_enter Tryz.func97,Tryz.ntmps97
 go_wp2_with (first|(go_at_call 149;refine Hc.out.mono ?_;rintro e w1 ⟨v,rfl,hrow,hnil,hb⟩;obtain⟨A,c,rfl,hnc⟩:=ownsRow_form hrow;have Hs:=Lhd (sortS_any _ A xs.length c xs w1 rfl hN hrow))|(go_at_call 150;refine Hs.out.mono ?_;rintro e w2 ⟨rfl,hrow2,hb2⟩))
 go_ret
 exact⟨A,c,rfl,hrow2,hb.trans (hb2.mono (Nat.le_refl _))⟩
theorem grownBy_row {w:World} {g n:Nat} (d:Array (List UInt8)):w.grownBy (putRow encStr (Sort.ahead w n) g 0 d) (some g):=by
 refine⟨rfl,rfl,rfl,by simp,fun k hk hne=>?_⟩
 have:g≠k:=fun e=>hne (by rw[e])
 simp[putRow,mapBlock,Sort.ahead,Array.getElem?_modify,this]
theorem compactS_any (base:Nat) (A:Option Addr) (n c:Nat) (xs:List ByteArray) (w:World) (hn:xs.length=n) (hbig:n≤1000000) (hown:w.ownsRow base 9 1 (.slice A n c) n ((sortedB xs).map encStr)) :
  Calls Tryz.prog 174 #[.slice A n c] w fun e w'=>e=.returned (.slice A (Lib.compact (sortedB xs)).length c)∧Below base w w':=by
 subst hn
 have hl:(sortedB xs).length=xs.length:=by rw[sortedB,List.length_mergeSort,bytesL_length]
 rcases hown.2 with ⟨hv,h0⟩|⟨g,cap,cur,hv,hbg,hg,hnc,hcm,hcs,htk⟩
 ·injection hv with h1 h2 h3
  subst h1 h3
  have hx:xs=[]:=List.eq_nil_of_length_eq_zero h0
  subst hx
  refine(AnyG.slices_Compact_string_empty Tryz.compactS none 0 w).mono ?_
  rintro e w' ⟨rfl,rfl⟩
  exact⟨by rw[show sortedB []=[] by simp[sortedB,bytesL]];rfl,Below.refl _ _⟩
 ·injection hv with h1 h2 h3
  subst h1 h3
  have hlt:g<w.heap.size:=(Array.getElem?_eq_some_iff.1 hg).1
  have htk':cur.toList.take (sortedB xs).length=(sortedB xs).map encStr:=by rw[← htk,hl,Nat.mul_one]
  have hc:=AnyG.slices_Compact_string Tryz.compactS g 0 c (sortedB xs) w (holds_of_block hg htk') (by omega) (by omega)
  rw[hl] at hc
  refine hc.mono ?_
  rintro e w' ⟨rfl,k,rfl⟩
  refine⟨rfl,?_⟩
  exact(But.grown (But.refl (fun k=>k=g) w) (grownBy_row _) (fun k hk=>by cases hk;exact .inl rfl)).below' (by omega) (fun i hi=>by subst hi;exact hbg)
theorem unlike_any (F:Nat→Prop) (A:Option Addr) (n c:Nat) (xs:List ByteArray) (w:World) (h:LsAt F w 1 SRow A n c xs) (hbig:n≤1000000) :
  Calls Tryz.prog 136 #[.slice A n c] w fun e w'=>e=.returned (.bool (decide xs.Nodup))∧Below w.heap.size w w':=by
 have hl:=h.len
 have hL:LsAt (fun b=>b<w.heap.size) w 1 SRow A n c xs:=h.conv (Kept.refl _ _) (fun a ha h0 _=>h.lt h0 a ha) (fun _ _ _ h=>h)
 have hb1:Below w.heap.size w (w.alloc (.cells #[.slice A n c] 53)):=(Below.refl _ _).alloc (Nat.le_refl _) _
 have hbx:=Boxed.new w 53 (.slice A n c)
 have Hv:=Lhd (callsIn_wide.1 (values_in 4 A n c w))
 have Hs:=Lhd (sortedS_any 199 #[.pointer (some ⟨w.heap.size,0,none⟩)] (enters_of Tryz.func199 (by kernel_rfl) rfl) xs (by omega) _ w.heap.size hb1.size
  (hl▸values_stops 3 (by omega) w.heap.size w.heap.size A n c xs _ (by simp) hbx.cell (hL.below hb1)))
 have ho:decide ((Lib.compact (sortedB xs)).length=n)=decide xs.Nodup:=by
  rw[decide_eq_decide,← hl];exact once_sorted xs
 have Ho:=Lhd ho
 clear ho
 subst hl
 go_enter Tryz.func136,Tryz.ntmps136
 go_wp2_with (first|(go_at_call 175;refine Hv.out.mono ?_;rintro e w1 ⟨rfl,rfl⟩)|(go_at_call 97;refine Hs.out.mono ?_;rintro e w2 ⟨A2,c2,rfl,hrow,hb2⟩;have Hk:=Lhd (compactS_any _ A2 xs.length c2 xs w2 rfl hbig hrow))|(go_at_call 174;refine Hk.out.mono ?_;rintro e w3 ⟨rfl,hb3⟩))
 go_ret
 refine⟨ret_bool ?_,(hb1.trans (hb2.mono hb1.size)).trans (hb3.mono (hb1.size))⟩
 rw[← Ho.out]
 rw[Bool.eq_iff_iff]
 simp
 omega
end Go.Proofs.YtgbgiknfejpcoaaGreat
