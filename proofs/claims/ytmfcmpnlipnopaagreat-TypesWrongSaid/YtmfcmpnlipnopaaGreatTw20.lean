/- Parts of this proof, one behind the other: SynE, SynF, SynG, SynH. -/
import Derived.Test.YtmfcmpnlipnopaaGreatTw19
import Derived.Deep.RegionLaw
import Derived.Deep.RegionWith
import Derived.Deep.RegionHeld3
set_option maxRecDepth 1000000
set_option maxHeartbeats 40000000
namespace Go.Proofs.YtmfcmpnlipnopaaGreat
open Go.RowKit Go.Afx
theorem noS_nil (s:ByteArray):noS s=s.toList.isEmpty:=by
 unfold noS
 rw[Bool.eq_iff_iff,decide_eq_true_iff,List.isEmpty_iff]
 have h0:ByteArray.empty.toList=[]:=by rw[ByteArray.toList_eq];rfl
 constructor
 ·rintro rfl;exact h0
 ·intro h
  exact bs_inj (h.trans h0.symm)
theorem strs_one {w:World} {g:Nat} (T:TypeId) (a:ByteArray) (hg:g=w.heap.size) (ha:okS a):LsAt (fun _=>True) (w.alloc (.cells #[.string a] T)) 1 SRow (some ⟨g,0,none⟩) 1 1 [a] :=
 ⟨[[.string a]],RowsAt.lit' _ _ 1 hg rfl (by simp) rfl (by unfold maxLen;omega),fun _ _ _=>trivial,rfl,fun k r x hr hx=>by
  cases k with
  | zero=>simp at hr hx;subst hr hx;exact⟨rfl,rfl,ha⟩
  | succ k=>simp at hr⟩
theorem strs_two {w:World} {g:Nat} (T:TypeId) (a b:ByteArray) (hg:g=w.heap.size) (ha:okS a) (hb:okS b):LsAt (fun _=>True) (w.alloc (.cells #[.string a,.string b] T)) 1 SRow (some ⟨g,0,none⟩) 2 2 [a,b] :=
 ⟨[[.string a],[.string b]],RowsAt.lit' _ _ 2 hg rfl (by simp) rfl (by unfold maxLen;omega),fun _ _ _=>trivial,rfl,fun k r x hr hx=>by
  match k with
  | 0=>simp at hr hx;subst hr hx;exact⟨rfl,rfl,ha⟩
  | 1=>simp at hr hx;subst hr hx;exact⟨rfl,rfl,hb⟩
  | k+2=>simp at hr⟩
theorem LsAt.drew {α:Type} {F:Nat→Prop} {w:World} {sz:Nat} {P:List Value→α→Prop} {A:Option Addr} {n c:Nat} {xs:List α} (h:LsAt F w sz P A n c xs):LsAt F w.drew sz P A n c xs:=h.below (Below.refl _ _).drew
section
variable (n:Int) (s name src:ByteArray) (A:Option Addr) (m c:Nat) (w:World)
theorem fields_1:Calls Tryz.prog 138 #[.agg #[.int .i64 1,.int .i64 n,.string s,.string name,.string src,.slice A m c]] w fun x w'=>x=.returned (.bool (fieldsR 1 n s name src))∧Below w.heap.size w w':=by
 have ha:=fun W=>args_any 1 W
 have hr:rowsB 1=false:=rfl
 rw[hr] at ha
 have Ha:=Lhd ha
 clear ha
 by_cases hn:0≤n
 ·go_enter Tryz.func138,Tryz.ntmps138
  go_wp2_with (go_at_call 137;refine(Ha.out _).mono ?_;rintro x w' ⟨rfl,rfl⟩)
  go_region
  all_goals go_wp2
  all_goals
   go_ret
   refine⟨ret_bool ?_,?_⟩
   ·simp_all [fieldsR,noS_nil]
    try omega
   ·repeat (first|exact Below.refl _ _|refine Below.drew ?_|refine Below.alloc ?_ (by simp) _|refine Below.setCell ?_ (by simp) _)
 ·have hd:decide (0≤n)=false:=by simpa using hn
  go_enter Tryz.func138,Tryz.ntmps138
  go_wp2_with (go_at_call 137;refine(Ha.out _).mono ?_;rintro x w' ⟨rfl,rfl⟩)
  go_region
  all_goals go_wp2
  all_goals
   go_ret
   refine⟨ret_bool ?_,?_⟩
   ·simp_all [fieldsR,noS_nil]
    try omega
   ·repeat (first|exact Below.refl _ _|refine Below.drew ?_|refine Below.alloc ?_ (by simp) _|refine Below.setCell ?_ (by simp) _)
theorem fields_2:Calls Tryz.prog 138 #[.agg #[.int .i64 2,.int .i64 n,.string s,.string name,.string src,.slice A m c]] w fun x w'=>x=.returned (.bool (fieldsR 2 n s name src))∧Below w.heap.size w w':=by
 have ha:=fun W=>args_any 2 W
 have hr:rowsB 2=false:=rfl
 rw[hr] at ha
 have Ha:=Lhd ha
 clear ha
 by_cases hs:s.size≤200
 ·go_enter Tryz.func138,Tryz.ntmps138
  go_wp2_with (go_at_call 137;refine(Ha.out _).mono ?_;rintro x w' ⟨rfl,rfl⟩)
  go_region
  all_goals go_wp2
  all_goals
   go_ret
   refine⟨ret_bool ?_,?_⟩
   ·simp_all [fieldsR,noS_nil]
    try omega
   ·repeat (first|exact Below.refl _ _|refine Below.drew ?_|refine Below.alloc ?_ (by simp) _|refine Below.setCell ?_ (by simp) _)
 ·have hd:decide (s.size≤200)=false:=by simpa using hs
  go_enter Tryz.func138,Tryz.ntmps138
  go_wp2_with (go_at_call 137;refine(Ha.out _).mono ?_;rintro x w' ⟨rfl,rfl⟩)
  go_region
  all_goals go_wp2
  all_goals
   go_ret
   refine⟨ret_bool ?_,?_⟩
   ·simp_all [fieldsR,noS_nil]
    try omega
   ·repeat (first|exact Below.refl _ _|refine Below.drew ?_|refine Below.alloc ?_ (by simp) _|refine Below.setCell ?_ (by simp) _)
theorem fields_3:Calls Tryz.prog 138 #[.agg #[.int .i64 3,.int .i64 n,.string s,.string name,.string src,.slice A m c]] w fun x w'=>x=.returned (.bool (fieldsR 3 n s name src))∧Below w.heap.size w w':=by
 have ha:=fun W=>args_any 3 W
 have hr:rowsB 3=false:=rfl
 rw[hr] at ha
 have Ha:=Lhd ha
 clear ha
 go_enter Tryz.func138,Tryz.ntmps138
 go_wp2_with (go_at_call 137;refine(Ha.out _).mono ?_;rintro x w' ⟨rfl,rfl⟩)
 go_region
 all_goals go_wp2
 all_goals
  go_ret
  refine⟨ret_bool ?_,?_⟩
  ·simp_all [fieldsR,noS_nil]
   try omega
  ·repeat (first|exact Below.refl _ _|refine Below.drew ?_|refine Below.alloc ?_ (by simp) _|refine Below.setCell ?_ (by simp) _)
theorem fields_other (op:Int) (ho:op<1∨5<op) (hr0:op<21∨24<op):Calls Tryz.prog 138 #[.agg #[.int .i64 op,.int .i64 n,.string s,.string name,.string src,.slice A m c]] w fun x w'=>x=.returned (.bool (fieldsR op n s name src))∧Below w.heap.size w w':=by
 have ha:=fun W=>args_any op W
 have hr:rowsB op=false:=by simp[rowsB];omega
 rw[hr] at ha
 have Ha:=Lhd ha
 clear ha
 have e1:(op==1)=false:=by simp;omega
 have e2:(op==2)=false:=by simp;omega
 have e3:(op==3)=false:=by simp;omega
 have e4:(op==4)=false:=by simp;omega
 have e5:(op==5)=false:=by simp;omega
 have Hr:=Lhd hr
 clear hr
 go_enter Tryz.func138,Tryz.ntmps138
 go_wp2_with (go_at_call 137;refine(Ha.out _).mono ?_;rintro x w' ⟨rfl,rfl⟩)
 all_goals
  go_ret
  refine⟨ret_bool ?_,?_⟩
  ·simp_all [fieldsR,noS_nil,Hr.out]
   try omega
  ·repeat (first|exact Below.refl _ _|refine Below.drew ?_|refine Below.alloc ?_ (by simp) _|refine Below.setCell ?_ (by simp) _)
end
open Go.RowKit Go.Afx
theorem fields_4 (n:Int) (s name src:ByteArray) (A:Option Addr) (m c:Nat) (w:World) (ok_name:okS name) :
  Calls Tryz.prog 138 #[.agg #[.int .i64 4,.int .i64 n,.string s,.string name,.string src,.slice A m c]] w fun x w'=>x=.returned (.bool (fieldsR 4 n s name src))∧Below w.heap.size w w':=by
 have ha:=fun W=>args_any 4 W
 have hr:rowsB 4=false:=rfl
 rw[hr] at ha
 have Ha:=Lhd ha
 have Hr:=Lhd hr
 clear ha hr
 obtain⟨q,hq⟩:∃ q,freesB [name]=q:=⟨_,rfl⟩
 have hF:=fun (W:World) (g:Nat) (h:LsAt (fun _=>True) W 1 SRow (some ⟨g,0,none⟩) 1 1 [name])=>free_any _ _ _ _ _ W h
 rw[hq] at hF
 have HF:=Lhd hF
 have Hq:=Lhd hq
 clear hF hq
 obtain⟨w1,Hw1⟩:∃ w1,Hid (w1=w.alloc (.cells #[.int .i64 4,.int .i64 n,.string s,.string name,.string src,.slice A m c] 89)):=⟨_,rfl⟩
 obtain⟨w2,Hw2⟩:∃ w2,Hid (w2=w1.alloc (.cells #[.int .i64 0,.int .i64 0,.string { data:=#[] },.string { data:=#[] },.string { data:=#[] },.slice none 0 0] 89)):=⟨_,rfl⟩
 have hx2:IsBlk w2 w.heap.size 89 #[.int .i64 4,.int .i64 n,.string s,.string name,.string src,.slice A m c]:=by rw[Hw2.out,Hw1.out];exact(IsBlk.laid _ _ _).alloc _
 have hy2:IsBlk w2 (w.heap.size+1) 89 #[.int .i64 0,.int .i64 0,.string { data:=#[] },.string { data:=#[] },.string { data:=#[] },.slice none 0 0]:=by rw[Hw2.out,Hw1.out];exact laid_at (by simp) _ _
 have hb2:Below w.heap.size w w2:=by rw[Hw2.out,Hw1.out];exact((Below.refl _ _).alloc (Nat.le_refl _) _).alloc (by simp) _
 have hz2:w2.heap.size=w.heap.size+2:=by rw[Hw2.out,Hw1.out];simp
 have Hz2:=Lhd hz2
 clear hz2
 have hf:=fun (W:World) (hW:Below w2.heap.size w2 W)=>And.intro (hx2.as_was (hW.block _ hx2.lt)) (hy2.as_was (hW.block _ hy2.lt))
 have Hf:=Lhd hf
 clear hf
 have hxl:=hx2.lt
 have hyl:=hy2.lt
 go_enter Tryz.func138,Tryz.ntmps138
 go_wp2_with (go_at_call 137;refine(Ha.out _).mono ?_;rintro x w' ⟨rfl,rfl⟩)
 rw[← Hw1.out,← Hw2.out]
 have x21:=hx2.cell 1
 have x22:=hx2.cell 2
 have x23:=hx2.cell 3
 have x24:=hx2.cell 4
 simp at x21 x22 x23 x24
 go_region_with (go_at_call 85;go_loud (refine(HF.out _ _ (LsAt.drew (strs_one (w:=w2) 9 name rfl ok_name))).mono ?_;rintro x w4 ⟨rfl,hb4⟩;have hb24:Below w2.heap.size w2 w4:=(((Below.refl _ _).alloc (Nat.le_refl _) _).drew).trans (hb4.mono (by simp));have hx4:=(Hf.out w4 hb24).1;have hy4:=(Hf.out w4 hb24).2;have x41:=hx4.cell 1;have x42:=hx4.cell 2;have x43:=hx4.cell 3;have x44:=hx4.cell 4;have y41:=hy4.cell 1;have y42:=hy4.cell 2;have y43:=hy4.cell 3;have y44:=hy4.cell 4;have yf:=hy4.frozen;have xl4:=hx4.lt;have yl4:=hy4.lt;simp at x41 x42 x43 x44 y41 y42 y43 y44))
 all_goals cases q
 all_goals go_wp2
 all_goals
  go_ret
  have hb04:=hb2.trans (hb24.mono hb2.size)
  have hq:=Hq.out
  have hr:=Hr.out
  rw[freesB_all] at hq
  refine⟨ret_bool ?_,?_⟩
  ·clear Hf HF Ha x41 x42 x43 x44 y41 y42 y43 y44 yf
   simp_all [fieldsR,noS_nil]
   try omega
  ·repeat (first|exact hb04|refine Below.drew ?_|refine Below.setCell ?_ (by simp) _)
theorem fields_5 (n:Int) (s name src:ByteArray) (A:Option Addr) (m c:Nat) (w:World) (ok_name:okS name) (ok_s:okS s) :
  Calls Tryz.prog 138 #[.agg #[.int .i64 5,.int .i64 n,.string s,.string name,.string src,.slice A m c]] w fun x w'=>x=.returned (.bool (fieldsR 5 n s name src))∧Below w.heap.size w w':=by
 have ha:=fun W=>args_any 5 W
 have hr:rowsB 5=false:=rfl
 rw[hr] at ha
 have Ha:=Lhd ha
 have Hr:=Lhd hr
 clear ha hr
 obtain⟨q,hq⟩:∃ q,freesB [name,s]=q:=⟨_,rfl⟩
 have hF:=fun (W:World) (g:Nat) (h:LsAt (fun _=>True) W 1 SRow (some ⟨g,0,none⟩) 2 2 [name,s])=>free_any _ _ _ _ _ W h
 rw[hq] at hF
 have HF:=Lhd hF
 have Hq:=Lhd hq
 clear hF hq
 obtain⟨w1,Hw1⟩:∃ w1,Hid (w1=w.alloc (.cells #[.int .i64 5,.int .i64 n,.string s,.string name,.string src,.slice A m c] 89)):=⟨_,rfl⟩
 obtain⟨w2,Hw2⟩:∃ w2,Hid (w2=w1.alloc (.cells #[.int .i64 0,.int .i64 0,.string { data:=#[] },.string { data:=#[] },.string { data:=#[] },.slice none 0 0] 89)):=⟨_,rfl⟩
 have hx2:IsBlk w2 w.heap.size 89 #[.int .i64 5,.int .i64 n,.string s,.string name,.string src,.slice A m c]:=by rw[Hw2.out,Hw1.out];exact(IsBlk.laid _ _ _).alloc _
 have hy2:IsBlk w2 (w.heap.size+1) 89 #[.int .i64 0,.int .i64 0,.string { data:=#[] },.string { data:=#[] },.string { data:=#[] },.slice none 0 0]:=by rw[Hw2.out,Hw1.out];exact laid_at (by simp) _ _
 have hb2:Below w.heap.size w w2:=by rw[Hw2.out,Hw1.out];exact((Below.refl _ _).alloc (Nat.le_refl _) _).alloc (by simp) _
 have hz2:w2.heap.size=w.heap.size+2:=by rw[Hw2.out,Hw1.out];simp
 have Hz2:=Lhd hz2
 clear hz2
 have hf:=fun (W:World) (hW:Below w2.heap.size w2 W)=>And.intro (hx2.as_was (hW.block _ hx2.lt)) (hy2.as_was (hW.block _ hy2.lt))
 have Hf:=Lhd hf
 clear hf
 have hxl:=hx2.lt
 have hyl:=hy2.lt
 go_enter Tryz.func138,Tryz.ntmps138
 go_wp2_with (go_at_call 137;refine(Ha.out _).mono ?_;rintro x w' ⟨rfl,rfl⟩)
 rw[← Hw1.out,← Hw2.out]
 have x21:=hx2.cell 1
 have x22:=hx2.cell 2
 have x23:=hx2.cell 3
 have x24:=hx2.cell 4
 simp at x21 x22 x23 x24
 go_region_held3 (fun w'=>w'.cell? ⟨w.heap.size,3,none⟩=some (.string name)∧w'.cell? ⟨w.heap.size,2,none⟩=some (.string s)) ((first|exact⟨x43,x42⟩|exact⟨(World.cell?_alloc_lt w2 _ ⟨w.heap.size,3,none⟩ hxl).trans x23,(World.cell?_alloc_lt w2 _ ⟨w.heap.size,2,none⟩ hxl).trans x22⟩|(constructor<;>go_simp;done)|(simp[*];done))) (first|(go_at_call 85;go_loud (refine(HF.out _ _ (LsAt.drew (strs_two (w:=w2) 9 name s rfl ok_name ok_s))).mono ?_;rintro x w4 ⟨rfl,hb4⟩;have hb24:Below w2.heap.size w2 w4:=(((Below.refl _ _).alloc (Nat.le_refl _) _).drew).trans (hb4.mono (by simp));have hx4:=(Hf.out w4 hb24).1;have hy4:=(Hf.out w4 hb24).2;have x41:=hx4.cell 1;have x42:=hx4.cell 2;have x43:=hx4.cell 3;have x44:=hx4.cell 4;have y41:=hy4.cell 1;have y42:=hy4.cell 2;have y43:=hy4.cell 3;have y44:=hy4.cell 4;have yf:=hy4.frozen;have xl4:=hx4.lt;have yl4:=hy4.lt;simp at x41 x42 x43 x44 y41 y42 y43 y44)))
 all_goals cases q
 all_goals go_wp2
 all_goals
  go_ret
  have hb04:=hb2.trans (hb24.mono hb2.size)
  have hq:=Hq.out
  have hr:=Hr.out
  rw[freesB_all] at hq
  refine⟨ret_bool ?_,?_⟩
  ·clear Hf HF Ha x41 x42 x43 x44 y41 y42 y43 y44 yf
   simp_all [fieldsR,noS_nil]
   try omega
  ·repeat (first|exact hb04|refine Below.drew ?_|refine Below.setCell ?_ (by simp) _)
theorem fields_rows (op n:Int) (s name src:ByteArray) (A:Option Addr) (m c:Nat) (w:World) (hop:21≤op) (hop2:op≤24) (ok_name:okS name) (ok_src:okS src) :
  Calls Tryz.prog 138 #[.agg #[.int .i64 op,.int .i64 n,.string s,.string name,.string src,.slice A m c]] w fun x w'=>x=.returned (.bool (fieldsR op n s name src))∧Below w.heap.size w w':=by
 have ha:=fun W=>args_any op W
 have hr:rowsB op=true:=by simp[rowsB];omega
 rw[hr] at ha
 have Ha:=Lhd ha
 have Hr:=Lhd hr
 clear ha hr
 have e1:(op==1)=false:=by simp;omega
 have e2:(op==2)=false:=by simp;omega
 have e3:(op==3)=false:=by simp;omega
 have e4:(op==4)=false:=by simp;omega
 have e5:(op==5)=false:=by simp;omega
 obtain⟨q,hq⟩:∃ q,freesB [name,src]=q:=⟨_,rfl⟩
 have hF:=fun (W:World) (g:Nat) (h:LsAt (fun _=>True) W 1 SRow (some ⟨g,0,none⟩) 2 2 [name,src])=>free_any _ _ _ _ _ W h
 rw[hq] at hF
 have HF:=Lhd hF
 have Hq:=Lhd hq
 clear hF hq
 obtain⟨w1,Hw1⟩:∃ w1,Hid (w1=w.alloc (.cells #[.int .i64 op,.int .i64 n,.string s,.string name,.string src,.slice A m c] 89)):=⟨_,rfl⟩
 obtain⟨w2,Hw2⟩:∃ w2,Hid (w2=w1.alloc (.cells #[.int .i64 0,.int .i64 0,.string { data:=#[] },.string { data:=#[] },.string { data:=#[] },.slice none 0 0] 89)):=⟨_,rfl⟩
 have hx2:IsBlk w2 w.heap.size 89 #[.int .i64 op,.int .i64 n,.string s,.string name,.string src,.slice A m c]:=by rw[Hw2.out,Hw1.out];exact(IsBlk.laid _ _ _).alloc _
 have hy2:IsBlk w2 (w.heap.size+1) 89 #[.int .i64 0,.int .i64 0,.string { data:=#[] },.string { data:=#[] },.string { data:=#[] },.slice none 0 0]:=by rw[Hw2.out,Hw1.out];exact laid_at (by simp) _ _
 have hb2:Below w.heap.size w w2:=by rw[Hw2.out,Hw1.out];exact((Below.refl _ _).alloc (Nat.le_refl _) _).alloc (by simp) _
 have hz2:w2.heap.size=w.heap.size+2:=by rw[Hw2.out,Hw1.out];simp
 have Hz2:=Lhd hz2
 clear hz2
 have hf:=fun (W:World) (hW:Below w2.heap.size w2 W)=>And.intro (hx2.as_was (hW.block _ hx2.lt)) (hy2.as_was (hW.block _ hy2.lt))
 have Hf:=Lhd hf
 clear hf
 have hxl:=hx2.lt
 have hyl:=hy2.lt
 go_enter Tryz.func138,Tryz.ntmps138
 go_wp2_with (go_at_call 137;refine(Ha.out _).mono ?_;rintro x w' ⟨rfl,rfl⟩)
 rw[← Hw1.out,← Hw2.out]
 have x21:=hx2.cell 1
 have x22:=hx2.cell 2
 have x23:=hx2.cell 3
 have x24:=hx2.cell 4
 simp at x21 x22 x23 x24
 go_region_held3 (fun w'=>w'.cell? ⟨w.heap.size,3,none⟩=some (.string name)∧w'.cell? ⟨w.heap.size,4,none⟩=some (.string src)) ((first|exact⟨x43,x44⟩|exact⟨(World.cell?_alloc_lt w2 _ ⟨w.heap.size,3,none⟩ hxl).trans x23,(World.cell?_alloc_lt w2 _ ⟨w.heap.size,4,none⟩ hxl).trans x24⟩|(constructor<;>go_simp;done)|(simp[*];done))) (first|(go_at_call 85;go_loud (refine(HF.out _ _ (LsAt.drew (strs_two (w:=w2) 9 name src rfl ok_name ok_src))).mono ?_;rintro x w4 ⟨rfl,hb4⟩;have hb24:Below w2.heap.size w2 w4:=(((Below.refl _ _).alloc (Nat.le_refl _) _).drew).trans (hb4.mono (by simp));have hx4:=(Hf.out w4 hb24).1;have hy4:=(Hf.out w4 hb24).2;have x41:=hx4.cell 1;have x42:=hx4.cell 2;have x43:=hx4.cell 3;have x44:=hx4.cell 4;have y41:=hy4.cell 1;have y42:=hy4.cell 2;have y43:=hy4.cell 3;have y44:=hy4.cell 4;have yf:=hy4.frozen;have xl4:=hx4.lt;have yl4:=hy4.lt;simp at x41 x42 x43 x44 y41 y42 y43 y44)))
 all_goals cases q
 all_goals go_wp2
 all_goals
  go_ret
  have hb04:=hb2.trans (hb24.mono hb2.size)
  have hq:=Hq.out
  have hr:=Hr.out
  rw[freesB_all] at hq
  refine⟨ret_bool ?_,?_⟩
  ·clear Hf HF Ha x41 x42 x43 x44 y41 y42 y43 y44 yf
   simp_all [fieldsR,noS_nil]
   try omega
  ·repeat (first|exact hb04|refine Below.drew ?_|refine Below.setCell ?_ (by simp) _)
theorem fields_any (op n:Int) (s name src:ByteArray) (A:Option Addr) (m c:Nat) (w:World) (h1:okS name) (h2:okS s) (h3:okS src) :
  Calls Tryz.prog 138 #[.agg #[.int .i64 op,.int .i64 n,.string s,.string name,.string src,.slice A m c]] w fun x w'=>x=.returned (.bool (fieldsR op n s name src))∧Below w.heap.size w w':=by
 by_cases e1:op=1
 ·subst e1;exact fields_1 n s name src A m c w
 by_cases e2:op=2
 ·subst e2;exact fields_2 n s name src A m c w
 by_cases e3:op=3
 ·subst e3;exact fields_3 n s name src A m c w
 by_cases e4:op=4
 ·subst e4;exact fields_4 n s name src A m c w h1
 by_cases e5:op=5
 ·subst e5;exact fields_5 n s name src A m c w h1 h2
 by_cases er:21≤op∧op≤24
 ·exact fields_rows op n s name src A m c w er.1 er.2 h1 h3
 ·exact fields_other n s name src A m c w op (by omega) (by omega)
def BuiltsE (F:Nat→Prop) (d:Nat):Prop:=∀ (e:Ex) (row:List Value) (w:World),ExAt F d w row e →
 Calls Tryz.prog 119 #[.agg row.toArray] w fun x w'=>x=.returned (.bool (builtE d e))∧Below w.heap.size w w'
theorem builtC_any (F:Nat→Prop) (d:Nat) (ih:BuiltsE F d) (e:Ex) (row:List Value) (w:World) (h:ExAt F d w row e) :
  Calls Tryz.prog 139 #[.agg row.toArray] w fun x w'=>x=.returned (.bool (!builtE d e))∧Below w.heap.size w w':=by
 cases d with
 | zero=>exact h.elim
 | succ d =>
  have h':=h
  obtain⟨A,m,c,rfl,hl⟩:=h.open_.2.2.2.2.2
  have hb1:Below w.heap.size w (w.alloc (.cells #[.int .i64 e.op,.int .i64 e.n,.string e.s,.string e.name,.string e.src,.slice A m c] 89)):=(Below.refl _ _).alloc (Nat.le_refl _) _
  have Hc:=Lhd (ih e _ _ (h'.below hb1))
  generalize builtE (d+1) e=r at *
  go_enter Tryz.func139,Tryz.ntmps139
  go_wp2_with (go_at_call 119;refine Hc.out.mono ?_;rintro x w1 ⟨rfl,hb⟩)
  go_ret
  exact⟨ret_bool (by simp),hb1.trans (hb.mono hb1.size)⟩
theorem indexBuilt_any (F:Nat→Prop) (d:Nat) (ih:BuiltsE F d) (A:Option Addr) (n c:Nat) (es:List Ex) (w:World) (h:ExsAt F d w A n c es) :
  Calls Tryz.prog 136 #[.slice A n c,.func (.func 139) #[] #[]] w fun x w'=>x=.returned (.int .i64 (posB (fun e=>!builtE d e) es))∧Below w.heap.size w w':=by
 have hn:=LsAt.n_le h
 have Hl:=Lhd (LsAt.len h)
 go_enter Tryz.func136,Tryz.ntmps136
 go_wp2
 go_loopw [8] (fun i wr=>∃ k:Nat,k≤n∧i=.int .i64 k∧(∀ y∈es.take k,(!builtE d y)=false)∧Below w.heap.size w wr) (fun i _=>n-(intOf i).toNat)
 case atStart=>exact⟨0,Nat.zero_le _,rfl,by simp,Below.refl _ _⟩
 case round =>
  obtain⟨k,hk,rfl,hall,hb⟩:=hrel
  have Hall:=Lhd hall;clear hall
  by_cases hlt:k<n
  ·cases d with
   | zero =>
    obtain⟨b,o,r,e,hA,hbl,_,he,hl,hp,hc⟩:=LsAt.get (h.below hb) hlt
    exact hp.elim
   | succ d =>
    obtain⟨b,o,e,A2,m2,c2,rfl,hbl,hx,hc0,hc1,hc2,hc3,hc4,hc5,hp,_⟩:=ExsAt.get (h.below hb) hlt
    have hc:=builtC_any F (d+1) ih e _ wr hp
    obtain⟨q,hq⟩:∃ q,(!builtE (d+1) e)=q:=⟨_,rfl⟩
    rw[hq] at hc
    have Hc:=Lhd hc
    have Hq:=Lhd hq
    have Hx:=Lhd hx
    clear hc hq hx
    cases q
    ·have Hnx:=Lhd (mem_take_succ Hx.out Hall.out Hq.out)
     go_wp2_with (go_at_call 139;refine Hc.out.mono ?_;rintro y w1 ⟨rfl,hb1⟩)
     go_roundw
     case rel=>exact⟨k+1,by omega,by go_num,Hnx.out,hb.trans (hb1.mono hb.size)⟩
     case measure=>simp[intOf];omega
    ·have Hf:=Lhd (posB_yes (p:=fun e=>!builtE (d+1) e) Hx.out Hq.out Hall.out)
     go_wp2_with (go_at_call 139;refine Hc.out.mono ?_;rintro y w1 ⟨rfl,hb1⟩)
     go_ret
     exact⟨by rw[Hf.out];rfl,hb.trans (hb1.mono hb.size)⟩
  ·go_wp2
   go_ret
   have h1:=Hall.out
   rw[List.take_of_length_le (by rw[Hl.out];omega)] at h1
   exact⟨by rw[posB_no h1];rfl,hb⟩
theorem containsBuilt_any (F:Nat→Prop) (d:Nat) (ih:BuiltsE F d) (A:Option Addr) (n c:Nat) (es:List Ex) (w:World) (h:ExsAt F d w A n c es) :
  Calls Tryz.prog 117 #[.slice A n c,.func (.func 139) #[] #[]] w fun x w'=>x=.returned (.bool (!es.all (builtE d)))∧Below w.heap.size w w':=by
 have hi:=indexBuilt_any F d ih A n c es w h
 have hp:=posB_any (fun e=>!builtE d e) es
 have hq:(es.any fun e=>!builtE d e) = !es.all (builtE d):=by
  induction es with
  | nil=>rfl
  | cons a r _=>simp[List.any_eq_not_all_not]
 rw[hq] at hp
 generalize es.all (builtE d)=r at *
 generalize posB (fun e=>!builtE d e) es=i at *
 have Hp:=Lhd hp
 have Hi:=Lhd hi
 clear hp hi hq
 go_enter Tryz.func117,Tryz.ntmps117
 go_wp2_with (go_at_call 136;refine Hi.out.mono ?_;rintro x w' ⟨rfl,hb⟩)
 go_ret
 exact⟨ret_bool Hp.out,hb⟩
theorem builtE_any (F:Nat→Prop) (d:Nat):BuiltsE F d:=by
 induction d with
 | zero=>intro e row w h;exact h.elim
 | succ d ih =>
  intro e row w h
  obtain⟨ho,hn,hs,hnm,hsr,A,m,c,rfl,hl⟩:=h.open_
  have hlen:=LsAt.len hl
  have hb1:Below w.heap.size w (w.alloc (.cells #[.int .i64 e.op,.int .i64 e.n,.string e.s,.string e.name,.string e.src,.slice A m c] 89)):=(Below.refl _ _).alloc (Nat.le_refl _) _
  have hx1:IsBlk (w.alloc (.cells #[.int .i64 e.op,.int .i64 e.n,.string e.s,.string e.name,.string e.src,.slice A m c] 89)) w.heap.size 89 #[.int .i64 e.op,.int .i64 e.n,.string e.s,.string e.name,.string e.src,.slice A m c]:=IsBlk.laid _ _ _
  have Hx1:=Lhd hx1
  have Ha:=Lhd (args_any e.op)
  have Hf:=Lhd (fun W=>fields_any e.op e.n e.s e.name e.src A m c W hnm hs hsr)
  have Hc:=Lhd (fun W (hW:Below w.heap.size w W)=>containsBuilt_any F d ih A m c e.args W (hl.below hW))
  have hfin:builtE (d+1) e=(decide (arityB e.op=(m:Int))&&fieldsR e.op e.n e.s e.name e.src&&e.args.all (builtE d)):=by
   rw[← hlen];rfl
  generalize fieldsR e.op e.n e.s e.name e.src=q at *
  generalize e.args.all (builtE d)=r at *
  generalize builtE (d+1) e=fin at *
  have Hfin:=Lhd hfin
  clear hfin hlen hx1
  generalize arityB e.op=ar at *
  by_cases har:ar=(m:Int)
  ·have hb:(ar==(m:Int))=true:=by simpa using har
   have Har:=Lhd har
   clear har
   cases q
   ·go_enter Tryz.func119,Tryz.ntmps119
    go_wp2_with (first|(go_at_call 137;refine(Ha.out _).mono ?_;rintro x w' ⟨rfl,rfl⟩)|(go_at_call 138;refine(Hf.out _).mono ?_;rintro x w2 ⟨rfl,hb2⟩))
    go_ret
    exact⟨ret_bool (by rw[Hfin.out];simp),hb1.trans (hb2.mono hb1.size)⟩
   ·go_enter Tryz.func119,Tryz.ntmps119
    go_wp2_with (first|(go_at_call 137;refine(Ha.out _).mono ?_;rintro x w' ⟨rfl,rfl⟩)|(go_at_call 138;refine(Hf.out _).mono ?_;rintro x w2 ⟨rfl,hb2⟩;have hb02:=hb1.trans (hb2.mono hb1.size);have hx2:=Hx1.out.as_was (hb2.block _ Hx1.out.lt);have x25:=hx2.cell 5;simp at x25)|(go_at_call 117;refine(Hc.out _ hb02).mono ?_;rintro x w3 ⟨rfl,hb3⟩))
    go_ret
    exact⟨ret_bool (by rw[Hfin.out];simp[Har.out]),hb02.trans (hb3.mono hb02.size)⟩
  ·have hb:(ar==(m:Int))=false:=by simpa using har
   have Har:=Lhd har
   clear har
   go_enter Tryz.func119,Tryz.ntmps119
   go_wp2_with (go_at_call 137;refine(Ha.out _).mono ?_;rintro x w' ⟨rfl,rfl⟩)
   go_ret
   exact⟨ret_bool (by rw[Hfin.out];simp[Har.out]),hb1⟩
theorem has_any (ok:Bool) (s:ByteArray) (w:World) (hs:okS s):Calls Tryz.prog 135 #[.bool ok,.string s] w fun x w'=>∃ A n c,x=.returned (.slice A n c)∧LsAt (fun _=>True) w' 1 SRow A n c (if ok then [s] else [])∧Below w.heap.size w w':=by
 cases ok
 ·go_enter Tryz.func135,Tryz.ntmps135
  go_wp2
  go_ret
  exact⟨none,0,0,rfl,LsAt.nil_ _ _ _ _,Below.refl _ _⟩
 ·go_enter Tryz.func135,Tryz.ntmps135
  go_wp2
  go_ret
  exact⟨_,1,1,rfl,strs_one 9 s rfl hs,(Below.refl _ _).alloc (Nat.le_refl _) _⟩
theorem within_any (n lo hi:Int) (w:World):Calls Tryz.prog 84 #[.int .i64 n,.int .i64 lo,.int .i64 hi] w fun x w'=>x=.returned (.bool (decide (lo≤n)&&decide (n≤hi)))∧w=w':=by
 go_enter Tryz.func84,Tryz.ntmps84
 go_wp2
 all_goals
  go_ret
  refine⟨ret_bool ?_,rfl⟩
  rw[Bool.eq_iff_iff]
  simp
  try omega
end Go.Proofs.YtmfcmpnlipnopaaGreat
