/- Parts of this proof, one behind the other: RefF. -/
import Derived.Test.YthiimingnmbgmaaDoorPe15
import Derived.Test.YthiimingnmbgmaaDoorPe16
import Derived.Test.YthiimingnmbgmaaDoorPe17
import Derived.Test.YthiimingnmbgmaaDoorPe18
namespace Go.Proofs.YthiimingnmbgmaaDoor
open Go.RowKit Go.Afx

theorem rbuiltK_1  (n : Int) (s name src : ByteArray) (A : Option Addr) (m c : Nat) (args : List Ex) (w : World) (F : Nat → Prop) (d : Nat) (hl : ExsAt F d w A m c args) :
    Calls Tryd.prog 8 #[.agg #[.int .i64 1, .int .i64 n, .string s, .string name, .string src, .slice A m c]] w fun x w' => x = .returned (.bool (headR 1 n s name src args.length && args.all (builtE d))) ∧ Below w.heap.size w w' := by
  have ha := LsAt.len hl
  cases t0 : decide (0 ≤ n)
  · exact rbuilt_1_0 n s name src A m c args w d ha t0
  cases t1 : noS s
  · exact rbuilt_1_1 n s name src A m c args w d ha t0 t1
  cases t2 : noS name
  · exact rbuilt_1_2 n s name src A m c args w d ha t0 t1 t2
  cases t3 : noS src
  · exact rbuilt_1_3 n s name src A m c args w d ha t0 t1 t2 t3
  cases t4 : decide (m = 0)
  · exact rbuilt_1_4 n s name src A m c args w d ha t0 t1 t2 t3 t4
  exact rbuilt_1_5 n s name src A m c args w d ha t0 t1 t2 t3 t4

theorem rbuiltK_2  (n : Int) (s name src : ByteArray) (A : Option Addr) (m c : Nat) (args : List Ex) (w : World) (F : Nat → Prop) (d : Nat) (hl : ExsAt F d w A m c args) :
    Calls Tryd.prog 8 #[.agg #[.int .i64 2, .int .i64 n, .string s, .string name, .string src, .slice A m c]] w fun x w' => x = .returned (.bool (headR 2 n s name src args.length && args.all (builtE d))) ∧ Below w.heap.size w w' := by
  have ha := LsAt.len hl
  cases t0 : decide (s.size ≤ 200)
  · exact rbuilt_2_0 n s name src A m c args w d ha t0
  cases t1 : decide (n = 0)
  · exact rbuilt_2_1 n s name src A m c args w d ha t0 t1
  cases t2 : noS name
  · exact rbuilt_2_2 n s name src A m c args w d ha t0 t1 t2
  cases t3 : noS src
  · exact rbuilt_2_3 n s name src A m c args w d ha t0 t1 t2 t3
  cases t4 : decide (m = 0)
  · exact rbuilt_2_4 n s name src A m c args w d ha t0 t1 t2 t3 t4
  exact rbuilt_2_5 n s name src A m c args w d ha t0 t1 t2 t3 t4

theorem rbuiltK_3  (n : Int) (s name src : ByteArray) (A : Option Addr) (m c : Nat) (args : List Ex) (w : World) (F : Nat → Prop) (d : Nat) (hl : ExsAt F d w A m c args) :
    Calls Tryd.prog 8 #[.agg #[.int .i64 3, .int .i64 n, .string s, .string name, .string src, .slice A m c]] w fun x w' => x = .returned (.bool (headR 3 n s name src args.length && args.all (builtE d))) ∧ Below w.heap.size w w' := by
  have ha := LsAt.len hl
  cases t0 : (decide (n = 0) || decide (n = 1))
  · exact rbuilt_3_0 n s name src A m c args w d ha t0
  cases t1 : noS s
  · exact rbuilt_3_1 n s name src A m c args w d ha t0 t1
  cases t2 : noS name
  · exact rbuilt_3_2 n s name src A m c args w d ha t0 t1 t2
  cases t3 : noS src
  · exact rbuilt_3_3 n s name src A m c args w d ha t0 t1 t2 t3
  cases t4 : decide (m = 0)
  · exact rbuilt_3_4 n s name src A m c args w d ha t0 t1 t2 t3 t4
  exact rbuilt_3_5 n s name src A m c args w d ha t0 t1 t2 t3 t4

theorem rbuiltK_4  (n : Int) (s name src : ByteArray) (A : Option Addr) (m c : Nat) (args : List Ex) (w : World) (F : Nat → Prop) (d : Nat) (hl : ExsAt F d w A m c args) (okn : okS name) :
    Calls Tryd.prog 8 #[.agg #[.int .i64 4, .int .i64 n, .string s, .string name, .string src, .slice A m c]] w fun x w' => x = .returned (.bool (headR 4 n s name src args.length && args.all (builtE d))) ∧ Below w.heap.size w w' := by
  have ha := LsAt.len hl
  cases t0 : freeB name
  · exact rbuilt_4_0 n s name src A m c args w d okn ha t0
  cases t1 : decide (n = 0)
  · exact rbuilt_4_1 n s name src A m c args w d okn ha t0 t1
  cases t2 : noS s
  · exact rbuilt_4_2 n s name src A m c args w d okn ha t0 t1 t2
  cases t3 : noS src
  · exact rbuilt_4_3 n s name src A m c args w d okn ha t0 t1 t2 t3
  cases t4 : decide (m = 0)
  · exact rbuilt_4_4 n s name src A m c args w d okn ha t0 t1 t2 t3 t4
  exact rbuilt_4_5 n s name src A m c args w d okn ha t0 t1 t2 t3 t4

theorem rbuiltK_5  (n : Int) (s name src : ByteArray) (A : Option Addr) (m c : Nat) (args : List Ex) (w : World) (F : Nat → Prop) (d : Nat) (hl : ExsAt F d w A m c args) (okn : okS name) (oks : okS s) :
    Calls Tryd.prog 8 #[.agg #[.int .i64 5, .int .i64 n, .string s, .string name, .string src, .slice A m c]] w fun x w' => x = .returned (.bool (headR 5 n s name src args.length && args.all (builtE d))) ∧ Below w.heap.size w w' := by
  have ha := LsAt.len hl
  cases t0 : freeB name
  · exact rbuilt_5_0 n s name src A m c args w d okn ha t0
  cases t1 : freeB s
  · exact rbuilt_5_1 n s name src A m c args w d okn oks ha t0 t1
  cases t2 : decide (n = 0)
  · exact rbuilt_5_2 n s name src A m c args w d okn oks ha t0 t1 t2
  cases t3 : noS src
  · exact rbuilt_5_3 n s name src A m c args w d okn oks ha t0 t1 t2 t3
  cases t4 : decide (m = 0)
  · exact rbuilt_5_4 n s name src A m c args w d okn oks ha t0 t1 t2 t3 t4
  exact rbuilt_5_5 n s name src A m c args w d okn oks ha t0 t1 t2 t3 t4

theorem rbuiltK_21  (n : Int) (s name src : ByteArray) (A : Option Addr) (m c : Nat) (args : List Ex) (w : World) (F : Nat → Prop) (d : Nat) (ih : RBuilts F d) (hl : ExsAt F d w A m c args) (okn : okS name) (okr : okS src) :
    Calls Tryd.prog 8 #[.agg #[.int .i64 21, .int .i64 n, .string s, .string name, .string src, .slice A m c]] w fun x w' => x = .returned (.bool (headR 21 n s name src args.length && args.all (builtE d))) ∧ Below w.heap.size w w' := by
  have ha := LsAt.len hl
  cases t0 : freeB name
  · exact rbuilt_21_0 n s name src A m c args w d okn ha t0
  cases t1 : freeB src
  · exact rbuilt_21_1 n s name src A m c args w d okn okr ha t0 t1
  cases t2 : decide (n = 0)
  · exact rbuilt_21_2 n s name src A m c args w d okn okr ha t0 t1 t2
  cases t3 : noS s
  · exact rbuilt_21_3 n s name src A m c args w d okn okr ha t0 t1 t2 t3
  cases t4 : decide (m = 1)
  · exact rbuilt_21_4 n s name src A m c args w d okn okr ha t0 t1 t2 t3 t4
  exact rbuilt_21_5 n s name src A m c args w F d ih hl okn okr ha t0 t1 t2 t3 t4

theorem rbuiltK_r (op : Int) (h22 : 22 ≤ op) (h24 : op ≤ 24) (n : Int) (s name src : ByteArray) (A : Option Addr) (m c : Nat) (args : List Ex) (w : World) (F : Nat → Prop) (d : Nat) (ih : RBuilts F d) (hl : ExsAt F d w A m c args) (okn : okS name) (okr : okS src) :
    Calls Tryd.prog 8 #[.agg #[.int .i64 op, .int .i64 n, .string s, .string name, .string src, .slice A m c]] w fun x w' => x = .returned (.bool (headR op n s name src args.length && args.all (builtE d))) ∧ Below w.heap.size w w' := by
  have ha := LsAt.len hl
  cases t0 : freeB name
  · exact rbuilt_r_0 op h22 h24 n s name src A m c args w d okn ha t0
  cases t1 : freeB src
  · exact rbuilt_r_1 op h22 h24 n s name src A m c args w d okn okr ha t0 t1
  cases t2 : decide (n = 0)
  · exact rbuilt_r_2 op h22 h24 n s name src A m c args w d okn okr ha t0 t1 t2
  cases t3 : noS s
  · exact rbuilt_r_3 op h22 h24 n s name src A m c args w d okn okr ha t0 t1 t2 t3
  cases t4 : decide (m = 2)
  · exact rbuilt_r_4 op h22 h24 n s name src A m c args w d okn okr ha t0 t1 t2 t3 t4
  exact rbuilt_r_5 op h22 h24 n s name src A m c args w F d ih hl okn okr ha t0 t1 t2 t3 t4

theorem rbuiltK_t (op : Int) (h6 : 6 ≤ op) (h18 : op ≤ 18) (n : Int) (s name src : ByteArray) (A : Option Addr) (m c : Nat) (args : List Ex) (w : World) (F : Nat → Prop) (d : Nat) (ih : RBuilts F d) (hl : ExsAt F d w A m c args) :
    Calls Tryd.prog 8 #[.agg #[.int .i64 op, .int .i64 n, .string s, .string name, .string src, .slice A m c]] w fun x w' => x = .returned (.bool (headR op n s name src args.length && args.all (builtE d))) ∧ Below w.heap.size w w' := by
  have ha := LsAt.len hl
  cases t0 : decide (n = 0)
  · exact rbuilt_t_0 op h6 h18 n s name src A m c args w d ha t0
  cases t1 : noS s
  · exact rbuilt_t_1 op h6 h18 n s name src A m c args w d ha t0 t1
  cases t2 : noS name
  · exact rbuilt_t_2 op h6 h18 n s name src A m c args w d ha t0 t1 t2
  cases t3 : noS src
  · exact rbuilt_t_3 op h6 h18 n s name src A m c args w d ha t0 t1 t2 t3
  cases t4 : decide (m = 2)
  · exact rbuilt_t_4 op h6 h18 n s name src A m c args w d ha t0 t1 t2 t3 t4
  exact rbuilt_t_5 op h6 h18 n s name src A m c args w F d ih hl ha t0 t1 t2 t3 t4

theorem rbuiltK_19  (n : Int) (s name src : ByteArray) (A : Option Addr) (m c : Nat) (args : List Ex) (w : World) (F : Nat → Prop) (d : Nat) (ih : RBuilts F d) (hl : ExsAt F d w A m c args) :
    Calls Tryd.prog 8 #[.agg #[.int .i64 19, .int .i64 n, .string s, .string name, .string src, .slice A m c]] w fun x w' => x = .returned (.bool (headR 19 n s name src args.length && args.all (builtE d))) ∧ Below w.heap.size w w' := by
  have ha := LsAt.len hl
  cases t0 : decide (n = 0)
  · exact rbuilt_19_0 n s name src A m c args w d ha t0
  cases t1 : noS s
  · exact rbuilt_19_1 n s name src A m c args w d ha t0 t1
  cases t2 : noS name
  · exact rbuilt_19_2 n s name src A m c args w d ha t0 t1 t2
  cases t3 : noS src
  · exact rbuilt_19_3 n s name src A m c args w d ha t0 t1 t2 t3
  cases t4 : decide (m = 1)
  · exact rbuilt_19_4 n s name src A m c args w d ha t0 t1 t2 t3 t4
  exact rbuilt_19_5 n s name src A m c args w F d ih hl ha t0 t1 t2 t3 t4

theorem rbuiltK_20  (n : Int) (s name src : ByteArray) (A : Option Addr) (m c : Nat) (args : List Ex) (w : World) (F : Nat → Prop) (d : Nat) (ih : RBuilts F d) (hl : ExsAt F d w A m c args) :
    Calls Tryd.prog 8 #[.agg #[.int .i64 20, .int .i64 n, .string s, .string name, .string src, .slice A m c]] w fun x w' => x = .returned (.bool (headR 20 n s name src args.length && args.all (builtE d))) ∧ Below w.heap.size w w' := by
  have ha := LsAt.len hl
  cases t0 : decide (n = 0)
  · exact rbuilt_20_0 n s name src A m c args w d ha t0
  cases t1 : noS s
  · exact rbuilt_20_1 n s name src A m c args w d ha t0 t1
  cases t2 : noS name
  · exact rbuilt_20_2 n s name src A m c args w d ha t0 t1 t2
  cases t3 : noS src
  · exact rbuilt_20_3 n s name src A m c args w d ha t0 t1 t2 t3
  cases t4 : decide (m = 1)
  · exact rbuilt_20_4 n s name src A m c args w d ha t0 t1 t2 t3 t4
  exact rbuilt_20_5 n s name src A m c args w F d ih hl ha t0 t1 t2 t3 t4

theorem headR_none {n : Int} {s name src : ByteArray} {l : Nat} (op : Int) (h : op < 1 ∨ 24 < op) : headR op n s name src l = false := by
  have ha : arityB op = -1 := by unfold arityB; repeat (first | rw [if_pos (by omega)] | rw [if_neg (by omega)])
  rw [headR, ha, decide_eq_false (by omega)]
  rfl
set_option maxRecDepth 100000 in
set_option maxHeartbeats 2000000 in
theorem rbuilt_none (op n : Int) (s name src : ByteArray) (A : Option Addr) (m c : Nat) (w : World) (h : op < 1 ∨ 24 < op) :
    Calls Tryd.prog 8 #[.agg #[.int .i64 op, .int .i64 n, .string s, .string name, .string src, .slice A m c]] w fun x w' => x = .returned (.bool false) ∧ Below w.heap.size w w' := by
  have e1 : (op == 1) = false := by simp; omega
  have e2 : (op == 2) = false := by simp; omega
  have e3 : (op == 3) = false := by simp; omega
  have e4 : (op == 4) = false := by simp; omega
  have e5 : (op == 5) = false := by simp; omega
  have e19 : (op == 19) = false := by simp; omega
  have e20 : (op == 20) = false := by simp; omega
  obtain ⟨w2, Hw2⟩ : ∃ w2, Hid (w2 = (w.alloc (.cells #[.int .i64 op, .int .i64 n, .string s, .string name, .string src, .slice A m c] 35)).alloc (.cells #[.int .i64 op, .int .i64 0, .string { data := #[] }, .string { data := #[] }, .string { data := #[] }, .slice none 0 0] 35)) := ⟨_, rfl⟩
  have hR : Below w.heap.size w w2 := by rw [Hw2.out]; exact ((Below.refl _ _).alloc (Nat.le_refl _) _).alloc (by simp) _
  have he2 : IsBlk w2 w.heap.size 35 #[.int .i64 op, .int .i64 n, .string s, .string name, .string src, .slice A m c] := by rw [Hw2.out]; exact (IsBlk.laid _ _ _).alloc _
  obtain ⟨x0, x1, x2, x3, x4, x5, xl⟩ := exBox he2
  clear he2
  rcases h with h | h
  · have f1 : decide ((21 : Int) ≤ op) = false := by simp; omega
    have f4 : decide ((6 : Int) ≤ op) = false := by simp; omega
    go_enter Tryd.func8, Tryd.ntmps8
    go_upto_region 2 with (fail)
    rw [← Hw2.out]
    go_wp2
    go_ret
    exact ⟨rfl, hR⟩
  · have f1 : decide ((21 : Int) ≤ op) = true := by simp; omega
    have f2 : decide (op ≤ (24 : Int)) = false := by simp; omega
    have f4 : decide ((6 : Int) ≤ op) = true := by simp; omega
    have f5 : decide (op ≤ (18 : Int)) = false := by simp; omega
    go_enter Tryd.func8, Tryd.ntmps8
    go_upto_region 2 with (fail)
    rw [← Hw2.out]
    go_wp2
    go_ret
    exact ⟨rfl, hR⟩

theorem rbuilt_any (F : Nat → Prop) (d : Nat) : RBuilts F d := by
  induction d with
  | zero => intro e row w h; exact h.elim
  | succ d ih =>
    intro e row w h
    obtain ⟨ho, hn, hs, hnm, hsr, A, m, c, rfl, hl⟩ := h.open_
    have hfin : builtE (d + 1) e = (headR e.op e.n e.s e.name e.src e.args.length && e.args.all (builtE d)) := rfl
    rw [hfin]
    by_cases h1 : e.op = 1
    · rw [h1]; exact rbuiltK_1 e.n e.s e.name e.src A m c e.args w F d hl
    by_cases h2 : e.op = 2
    · rw [h2]; exact rbuiltK_2 e.n e.s e.name e.src A m c e.args w F d hl
    by_cases h3 : e.op = 3
    · rw [h3]; exact rbuiltK_3 e.n e.s e.name e.src A m c e.args w F d hl
    by_cases h4 : e.op = 4
    · rw [h4]; exact rbuiltK_4 e.n e.s e.name e.src A m c e.args w F d hl hnm
    by_cases h5 : e.op = 5
    · rw [h5]; exact rbuiltK_5 e.n e.s e.name e.src A m c e.args w F d hl hnm hs
    by_cases h21 : e.op = 21
    · rw [h21]; exact rbuiltK_21 e.n e.s e.name e.src A m c e.args w F d ih hl hnm hsr
    by_cases h19 : e.op = 19
    · rw [h19]; exact rbuiltK_19 e.n e.s e.name e.src A m c e.args w F d ih hl
    by_cases h20 : e.op = 20
    · rw [h20]; exact rbuiltK_20 e.n e.s e.name e.src A m c e.args w F d ih hl
    by_cases hr : 22 ≤ e.op ∧ e.op ≤ 24
    · exact rbuiltK_r e.op hr.1 hr.2 e.n e.s e.name e.src A m c e.args w F d ih hl hnm hsr
    by_cases hr : 6 ≤ e.op ∧ e.op ≤ 18
    · exact rbuiltK_t e.op hr.1 hr.2 e.n e.s e.name e.src A m c e.args w F d ih hl
    rw [headR_none e.op (by omega), Bool.false_and]
    exact rbuilt_none e.op e.n e.s e.name e.src A m c w (by omega)
end Go.Proofs.YthiimingnmbgmaaDoor
