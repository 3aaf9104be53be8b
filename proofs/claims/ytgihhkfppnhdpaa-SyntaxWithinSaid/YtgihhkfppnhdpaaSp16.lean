/- Parts of this proof, one behind the other: RefF, RefG, RefN, RefI, RefX, RefC, Hue. -/
import Derived.Test.YtgihhkfppnhdpaaSp12
import Derived.Test.YtgihhkfppnhdpaaSp13
import Derived.Test.YtgihhkfppnhdpaaSp14
import Derived.Test.YtgihhkfppnhdpaaSp15
import Derived.Test.YtgihhkfppnhdpaaSp11
import Derived.Test.YtgihhkfppnhdpaaSp1
import Derived.Deep.RegionHeld3
import Derived.Deep.DeepCutAuto
import Derived.Deep.QuietTactic
import Derived.BigQuiet
import Derived.Outline
import Derived.Test.YtgihhkfppnhdpaaSp10
namespace Go.Proofs.Ytgihhkfppnhdpaa
open Go.RowKit Go.Afx

theorem rbuiltK_1  (n : Int) (s name src : ByteArray) (A : Option Addr) (m c : Nat) (args : List Ex) (w : World) (F : Nat → Prop) (d : Nat) (hl : ExsAt F d w A m c args) :
    Calls Try.prog 62 #[.agg #[.int .i64 1, .int .i64 n, .string s, .string name, .string src, .slice A m c]] w fun x w' => x = .returned (.bool (headR 1 n s name src args.length && args.all (builtE d))) ∧ Below w.heap.size w w' := by
  have ha := LsAt.len hl
  cases t0 : decide (0 ≤ n)
  · exact rbuilt_1_0 n s name src A m c args w d ha t0
  cases t1 : noS s
  · exact rbuilt_1_1 n s name src A m c args w d ha t0 t1
  cases t2 : noS name
  · exact rbuilt_1_2 n s name src A m c args w d ha t0 t1 t2
  cases t3 : noS src
  · exact rbuilt_1_3 n s name src A m c args w d ha t0 t1 t2 t3
  cases t4 : decide (m = 0)
  · exact rbuilt_1_4 n s name src A m c args w d ha t0 t1 t2 t3 t4
  exact rbuilt_1_5 n s name src A m c args w d ha t0 t1 t2 t3 t4

theorem rbuiltK_2  (n : Int) (s name src : ByteArray) (A : Option Addr) (m c : Nat) (args : List Ex) (w : World) (F : Nat → Prop) (d : Nat) (hl : ExsAt F d w A m c args) :
    Calls Try.prog 62 #[.agg #[.int .i64 2, .int .i64 n, .string s, .string name, .string src, .slice A m c]] w fun x w' => x = .returned (.bool (headR 2 n s name src args.length && args.all (builtE d))) ∧ Below w.heap.size w w' := by
  have ha := LsAt.len hl
  cases t0 : decide (s.size ≤ 200)
  · exact rbuilt_2_0 n s name src A m c args w d ha t0
  cases t1 : decide (n = 0)
  · exact rbuilt_2_1 n s name src A m c args w d ha t0 t1
  cases t2 : noS name
  · exact rbuilt_2_2 n s name src A m c args w d ha t0 t1 t2
  cases t3 : noS src
  · exact rbuilt_2_3 n s name src A m c args w d ha t0 t1 t2 t3
  cases t4 : decide (m = 0)
  · exact rbuilt_2_4 n s name src A m c args w d ha t0 t1 t2 t3 t4
  exact rbuilt_2_5 n s name src A m c args w d ha t0 t1 t2 t3 t4

theorem rbuiltK_3  (n : Int) (s name src : ByteArray) (A : Option Addr) (m c : Nat) (args : List Ex) (w : World) (F : Nat → Prop) (d : Nat) (hl : ExsAt F d w A m c args) :
    Calls Try.prog 62 #[.agg #[.int .i64 3, .int .i64 n, .string s, .string name, .string src, .slice A m c]] w fun x w' => x = .returned (.bool (headR 3 n s name src args.length && args.all (builtE d))) ∧ Below w.heap.size w w' := by
  have ha := LsAt.len hl
  cases t0 : (decide (n = 0) || decide (n = 1))
  · exact rbuilt_3_0 n s name src A m c args w d ha t0
  cases t1 : noS s
  · exact rbuilt_3_1 n s name src A m c args w d ha t0 t1
  cases t2 : noS name
  · exact rbuilt_3_2 n s name src A m c args w d ha t0 t1 t2
  cases t3 : noS src
  · exact rbuilt_3_3 n s name src A m c args w d ha t0 t1 t2 t3
  cases t4 : decide (m = 0)
  · exact rbuilt_3_4 n s name src A m c args w d ha t0 t1 t2 t3 t4
  exact rbuilt_3_5 n s name src A m c args w d ha t0 t1 t2 t3 t4

theorem rbuiltK_4  (n : Int) (s name src : ByteArray) (A : Option Addr) (m c : Nat) (args : List Ex) (w : World) (F : Nat → Prop) (d : Nat) (hl : ExsAt F d w A m c args) (okn : okS name) :
    Calls Try.prog 62 #[.agg #[.int .i64 4, .int .i64 n, .string s, .string name, .string src, .slice A m c]] w fun x w' => x = .returned (.bool (headR 4 n s name src args.length && args.all (builtE d))) ∧ Below w.heap.size w w' := by
  have ha := LsAt.len hl
  cases t0 : freeB name
  · exact rbuilt_4_0 n s name src A m c args w d okn ha t0
  cases t1 : decide (n = 0)
  · exact rbuilt_4_1 n s name src A m c args w d okn ha t0 t1
  cases t2 : noS s
  · exact rbuilt_4_2 n s name src A m c args w d okn ha t0 t1 t2
  cases t3 : noS src
  · exact rbuilt_4_3 n s name src A m c args w d okn ha t0 t1 t2 t3
  cases t4 : decide (m = 0)
  · exact rbuilt_4_4 n s name src A m c args w d okn ha t0 t1 t2 t3 t4
  exact rbuilt_4_5 n s name src A m c args w d okn ha t0 t1 t2 t3 t4

theorem rbuiltK_5  (n : Int) (s name src : ByteArray) (A : Option Addr) (m c : Nat) (args : List Ex) (w : World) (F : Nat → Prop) (d : Nat) (hl : ExsAt F d w A m c args) (okn : okS name) (oks : okS s) :
    Calls Try.prog 62 #[.agg #[.int .i64 5, .int .i64 n, .string s, .string name, .string src, .slice A m c]] w fun x w' => x = .returned (.bool (headR 5 n s name src args.length && args.all (builtE d))) ∧ Below w.heap.size w w' := by
  have ha := LsAt.len hl
  cases t0 : freeB name
  · exact rbuilt_5_0 n s name src A m c args w d okn ha t0
  cases t1 : freeB s
  · exact rbuilt_5_1 n s name src A m c args w d okn oks ha t0 t1
  cases t2 : decide (n = 0)
  · exact rbuilt_5_2 n s name src A m c args w d okn oks ha t0 t1 t2
  cases t3 : noS src
  · exact rbuilt_5_3 n s name src A m c args w d okn oks ha t0 t1 t2 t3
  cases t4 : decide (m = 0)
  · exact rbuilt_5_4 n s name src A m c args w d okn oks ha t0 t1 t2 t3 t4
  exact rbuilt_5_5 n s name src A m c args w d okn oks ha t0 t1 t2 t3 t4

theorem rbuiltK_21  (n : Int) (s name src : ByteArray) (A : Option Addr) (m c : Nat) (args : List Ex) (w : World) (F : Nat → Prop) (d : Nat) (ih : RBuilts F d) (hl : ExsAt F d w A m c args) (okn : okS name) (okr : okS src) :
    Calls Try.prog 62 #[.agg #[.int .i64 21, .int .i64 n, .string s, .string name, .string src, .slice A m c]] w fun x w' => x = .returned (.bool (headR 21 n s name src args.length && args.all (builtE d))) ∧ Below w.heap.size w w' := by
  have ha := LsAt.len hl
  cases t0 : freeB name
  · exact rbuilt_21_0 n s name src A m c args w d okn ha t0
  cases t1 : freeB src
  · exact rbuilt_21_1 n s name src A m c args w d okn okr ha t0 t1
  cases t2 : decide (n = 0)
  · exact rbuilt_21_2 n s name src A m c args w d okn okr ha t0 t1 t2
  cases t3 : noS s
  · exact rbuilt_21_3 n s name src A m c args w d okn okr ha t0 t1 t2 t3
  cases t4 : decide (m = 1)
  · exact rbuilt_21_4 n s name src A m c args w d okn okr ha t0 t1 t2 t3 t4
  exact rbuilt_21_5 n s name src A m c args w F d ih hl okn okr ha t0 t1 t2 t3 t4

theorem rbuiltK_r (op : Int) (h22 : 22 ≤ op) (h24 : op ≤ 24) (n : Int) (s name src : ByteArray) (A : Option Addr) (m c : Nat) (args : List Ex) (w : World) (F : Nat → Prop) (d : Nat) (ih : RBuilts F d) (hl : ExsAt F d w A m c args) (okn : okS name) (okr : okS src) :
    Calls Try.prog 62 #[.agg #[.int .i64 op, .int .i64 n, .string s, .string name, .string src, .slice A m c]] w fun x w' => x = .returned (.bool (headR op n s name src args.length && args.all (builtE d))) ∧ Below w.heap.size w w' := by
  have ha := LsAt.len hl
  cases t0 : freeB name
  · exact rbuilt_r_0 op h22 h24 n s name src A m c args w d okn ha t0
  cases t1 : freeB src
  · exact rbuilt_r_1 op h22 h24 n s name src A m c args w d okn okr ha t0 t1
  cases t2 : decide (n = 0)
  · exact rbuilt_r_2 op h22 h24 n s name src A m c args w d okn okr ha t0 t1 t2
  cases t3 : noS s
  · exact rbuilt_r_3 op h22 h24 n s name src A m c args w d okn okr ha t0 t1 t2 t3
  cases t4 : decide (m = 2)
  · exact rbuilt_r_4 op h22 h24 n s name src A m c args w d okn okr ha t0 t1 t2 t3 t4
  exact rbuilt_r_5 op h22 h24 n s name src A m c args w F d ih hl okn okr ha t0 t1 t2 t3 t4

theorem rbuiltK_t (op : Int) (h6 : 6 ≤ op) (h18 : op ≤ 18) (n : Int) (s name src : ByteArray) (A : Option Addr) (m c : Nat) (args : List Ex) (w : World) (F : Nat → Prop) (d : Nat) (ih : RBuilts F d) (hl : ExsAt F d w A m c args) :
    Calls Try.prog 62 #[.agg #[.int .i64 op, .int .i64 n, .string s, .string name, .string src, .slice A m c]] w fun x w' => x = .returned (.bool (headR op n s name src args.length && args.all (builtE d))) ∧ Below w.heap.size w w' := by
  have ha := LsAt.len hl
  cases t0 : decide (n = 0)
  · exact rbuilt_t_0 op h6 h18 n s name src A m c args w d ha t0
  cases t1 : noS s
  · exact rbuilt_t_1 op h6 h18 n s name src A m c args w d ha t0 t1
  cases t2 : noS name
  · exact rbuilt_t_2 op h6 h18 n s name src A m c args w d ha t0 t1 t2
  cases t3 : noS src
  · exact rbuilt_t_3 op h6 h18 n s name src A m c args w d ha t0 t1 t2 t3
  cases t4 : decide (m = 2)
  · exact rbuilt_t_4 op h6 h18 n s name src A m c args w d ha t0 t1 t2 t3 t4
  exact rbuilt_t_5 op h6 h18 n s name src A m c args w F d ih hl ha t0 t1 t2 t3 t4

theorem rbuiltK_19  (n : Int) (s name src : ByteArray) (A : Option Addr) (m c : Nat) (args : List Ex) (w : World) (F : Nat → Prop) (d : Nat) (ih : RBuilts F d) (hl : ExsAt F d w A m c args) :
    Calls Try.prog 62 #[.agg #[.int .i64 19, .int .i64 n, .string s, .string name, .string src, .slice A m c]] w fun x w' => x = .returned (.bool (headR 19 n s name src args.length && args.all (builtE d))) ∧ Below w.heap.size w w' := by
  have ha := LsAt.len hl
  cases t0 : decide (n = 0)
  · exact rbuilt_19_0 n s name src A m c args w d ha t0
  cases t1 : noS s
  · exact rbuilt_19_1 n s name src A m c args w d ha t0 t1
  cases t2 : noS name
  · exact rbuilt_19_2 n s name src A m c args w d ha t0 t1 t2
  cases t3 : noS src
  · exact rbuilt_19_3 n s name src A m c args w d ha t0 t1 t2 t3
  cases t4 : decide (m = 1)
  · exact rbuilt_19_4 n s name src A m c args w d ha t0 t1 t2 t3 t4
  exact rbuilt_19_5 n s name src A m c args w F d ih hl ha t0 t1 t2 t3 t4

theorem rbuiltK_20  (n : Int) (s name src : ByteArray) (A : Option Addr) (m c : Nat) (args : List Ex) (w : World) (F : Nat → Prop) (d : Nat) (ih : RBuilts F d) (hl : ExsAt F d w A m c args) :
    Calls Try.prog 62 #[.agg #[.int .i64 20, .int .i64 n, .string s, .string name, .string src, .slice A m c]] w fun x w' => x = .returned (.bool (headR 20 n s name src args.length && args.all (builtE d))) ∧ Below w.heap.size w w' := by
  have ha := LsAt.len hl
  cases t0 : decide (n = 0)
  · exact rbuilt_20_0 n s name src A m c args w d ha t0
  cases t1 : noS s
  · exact rbuilt_20_1 n s name src A m c args w d ha t0 t1
  cases t2 : noS name
  · exact rbuilt_20_2 n s name src A m c args w d ha t0 t1 t2
  cases t3 : noS src
  · exact rbuilt_20_3 n s name src A m c args w d ha t0 t1 t2 t3
  cases t4 : decide (m = 1)
  · exact rbuilt_20_4 n s name src A m c args w d ha t0 t1 t2 t3 t4
  exact rbuilt_20_5 n s name src A m c args w F d ih hl ha t0 t1 t2 t3 t4

theorem headR_none {n : Int} {s name src : ByteArray} {l : Nat} (op : Int) (h : op < 1 ∨ 24 < op) : headR op n s name src l = false := by
  have ha : arityB op = -1 := by unfold arityB; repeat (first | rw [if_pos (by omega)] | rw [if_neg (by omega)])
  rw [headR, ha, decide_eq_false (by omega)]
  rfl
set_option maxRecDepth 100000 in
set_option maxHeartbeats 2000000 in
theorem rbuilt_none (op n : Int) (s name src : ByteArray) (A : Option Addr) (m c : Nat) (w : World) (h : op < 1 ∨ 24 < op) :
    Calls Try.prog 62 #[.agg #[.int .i64 op, .int .i64 n, .string s, .string name, .string src, .slice A m c]] w fun x w' => x = .returned (.bool false) ∧ Below w.heap.size w w' := by
  have e1 : (op == 1) = false := by simp; omega
  have e2 : (op == 2) = false := by simp; omega
  have e3 : (op == 3) = false := by simp; omega
  have e4 : (op == 4) = false := by simp; omega
  have e5 : (op == 5) = false := by simp; omega
  have e19 : (op == 19) = false := by simp; omega
  have e20 : (op == 20) = false := by simp; omega
  obtain ⟨w2, Hw2⟩ : ∃ w2, Hid (w2 = (w.alloc (.cells #[.int .i64 op, .int .i64 n, .string s, .string name, .string src, .slice A m c] 50)).alloc (.cells #[.int .i64 op, .int .i64 0, .string { data := #[] }, .string { data := #[] }, .string { data := #[] }, .slice none 0 0] 50)) := ⟨_, rfl⟩
  have hR : Below w.heap.size w w2 := by rw [Hw2.out]; exact ((Below.refl _ _).alloc (Nat.le_refl _) _).alloc (by simp) _
  have he2 : IsBlk w2 w.heap.size 50 #[.int .i64 op, .int .i64 n, .string s, .string name, .string src, .slice A m c] := by rw [Hw2.out]; exact (IsBlk.laid _ _ _).alloc _
  obtain ⟨x0, x1, x2, x3, x4, x5, xl⟩ := exBox he2
  clear he2
  rcases h with h | h
  · have f1 : decide ((21 : Int) ≤ op) = false := by simp; omega
    have f4 : decide ((6 : Int) ≤ op) = false := by simp; omega
    go_enter Try.func62, Try.ntmps62
    go_upto_region 2 with (fail)
    rw [← Hw2.out]
    go_wp2
    go_ret
    exact ⟨rfl, hR⟩
  · have f1 : decide ((21 : Int) ≤ op) = true := by simp; omega
    have f2 : decide (op ≤ (24 : Int)) = false := by simp; omega
    have f4 : decide ((6 : Int) ≤ op) = true := by simp; omega
    have f5 : decide (op ≤ (18 : Int)) = false := by simp; omega
    go_enter Try.func62, Try.ntmps62
    go_upto_region 2 with (fail)
    rw [← Hw2.out]
    go_wp2
    go_ret
    exact ⟨rfl, hR⟩

theorem rbuilt_any (F : Nat → Prop) (d : Nat) : RBuilts F d := by
  induction d with
  | zero => intro e row w h; exact h.elim
  | succ d ih =>
    intro e row w h
    obtain ⟨ho, hn, hs, hnm, hsr, A, m, c, rfl, hl⟩ := h.open_
    have hfin : builtE (d + 1) e = (headR e.op e.n e.s e.name e.src e.args.length && e.args.all (builtE d)) := rfl
    rw [hfin]
    by_cases h1 : e.op = 1
    · rw [h1]; exact rbuiltK_1 e.n e.s e.name e.src A m c e.args w F d hl
    by_cases h2 : e.op = 2
    · rw [h2]; exact rbuiltK_2 e.n e.s e.name e.src A m c e.args w F d hl
    by_cases h3 : e.op = 3
    · rw [h3]; exact rbuiltK_3 e.n e.s e.name e.src A m c e.args w F d hl
    by_cases h4 : e.op = 4
    · rw [h4]; exact rbuiltK_4 e.n e.s e.name e.src A m c e.args w F d hl hnm
    by_cases h5 : e.op = 5
    · rw [h5]; exact rbuiltK_5 e.n e.s e.name e.src A m c e.args w F d hl hnm hs
    by_cases h21 : e.op = 21
    · rw [h21]; exact rbuiltK_21 e.n e.s e.name e.src A m c e.args w F d ih hl hnm hsr
    by_cases h19 : e.op = 19
    · rw [h19]; exact rbuiltK_19 e.n e.s e.name e.src A m c e.args w F d ih hl
    by_cases h20 : e.op = 20
    · rw [h20]; exact rbuiltK_20 e.n e.s e.name e.src A m c e.args w F d ih hl
    by_cases hr : 22 ≤ e.op ∧ e.op ≤ 24
    · exact rbuiltK_r e.op hr.1 hr.2 e.n e.s e.name e.src A m c e.args w F d ih hl hnm hsr
    by_cases hr : 6 ≤ e.op ∧ e.op ≤ 18
    · exact rbuiltK_t e.op hr.1 hr.2 e.n e.s e.name e.src A m c e.args w F d ih hl
    rw [headR_none e.op (by omega), Bool.false_and]
    exact rbuilt_none e.op e.n e.s e.name e.src A m c w (by omega)
end Go.Proofs.Ytgihhkfppnhdpaa

namespace Go.Proofs.Ytgihhkfppnhdpaa
open Go.RowKit Go.Afx

/-- which fields an op has -/
def fOf (op : Int) : ByteArray :=
  if op = 1 ∨ op = 2 then str [110] else if op = 3 ∨ op = 8 then str [115] else if op = 4 then str [110, 115, 99] else if op = 5 then str [110, 115] else if op = 6 then str [110, 115, 78, 98] else if op = 7 then str [98, 101] else str []
def hN (op : Int) : Bool := decide (op = 1 ∨ op = 2 ∨ op = 4 ∨ op = 5 ∨ op = 6)
def hS (op : Int) : Bool := decide (op = 3 ∨ op = 4 ∨ op = 5 ∨ op = 6 ∨ op = 8)
def hC (op : Int) : Bool := decide (op = 4)
def hM (op : Int) : Bool := decide (op = 6)
def hB (op : Int) : Bool := decide (op = 6 ∨ op = 7)
def hE (op : Int) : Bool := decide (op = 7)
theorem okS_fOf (op : Int) : okS (fOf op) := by
  unfold fOf okS
  repeat' split
  all_goals decide
theorem fOf_cases (op : Int) (h1 : 1 ≤ op) (h2 : op ≤ 10) : op = 1 ∨ op = 2 ∨ op = 3 ∨ op = 4 ∨ op = 5 ∨ op = 6 ∨ op = 7 ∨ op = 8 ∨ op = 9 ∨ op = 10 := by omega
theorem inB_n (op : Int) (h1 : 1 ≤ op) (h2 : op ≤ 10) : inB (fOf op) 110 = hN op ∧ inB (fOf op) 115 = hS op ∧ inB (fOf op) 99 = hC op ∧ inB (fOf op) 78 = hM op ∧ inB (fOf op) 98 = hB op ∧ inB (fOf op) 101 = hE op := by
  rcases fOf_cases op h1 h2 with rfl | rfl | rfl | rfl | rfl | rfl | rfl | rfl | rfl | rfl <;> decide +kernel
theorem in_at (f : ByteArray) (c : UInt8) (k : Int) (b : Bool) (hf : okS f) (hk : (c.toNat : Int) = k) (hb : inB f c = b) (w : World) : Calls Try.prog 61 #[.string f, .int .u8 k] w fun x w' => x = .returned (.bool b) ∧ w = w' := by
  subst hk hb
  exact in_any f c w hf

/- the tests, in their order -/
def tA (op : Int) (name src : ByteArray) : Bool := (hN op != !noS name) || (hS op != !noS src) || (hN op && !freeB name) || (hS op && !freeB src)
def tB (op n : Int) (nc nb nl : Nat) : Bool := (hC op != decide (0 < nc)) || decide (8 < nc) || (!hM op && decide (n ≠ 0)) || decide (n < 0) || decide (1000 < n) || (!hB op && decide (0 < nb)) || (!hE op && decide (0 < nl))
def tMany (op : Int) : Bool := decide (op = 3 ∨ op = 8 ∨ op = 10)
def tD (op : Int) (nc ne : Nat) : Bool := (tMany op && (decide (ne < 1) || decide (8 < ne))) || (!tMany op && decide (ne ≠ 1 + nc))
def refS (op : Int) (name src : ByteArray) (n : Int) (cols : List ByteArray) (ne nb nl : Nat) : Bool :=
  decide (1 ≤ op) && decide (op ≤ 10) && !tA op name src && !tB op n cols.length nb nl && (cols.all freeB && decide cols.Nodup) && !tD op cols.length ne
theorem free_some {s : ByteArray} (h : freeB s = true) : noS s = false := by
  cases hn : noS s
  · rfl
  · unfold noS at hn
    have : s = ByteArray.empty := by simpa using hn
    subst this
    have h2 : freeB ByteArray.empty = false := rfl
    rw [h2] at h
    cases h
theorem refS_shape (op : Int) (name src : ByteArray) (n : Int) (cols : List ByteArray) (ne nb nl : Nat) : refS op name src n cols ne nb nl = shapeR op name src n cols ne nb nl := by
  by_cases h : 1 ≤ op ∧ op ≤ 10
  · obtain ⟨h1, h2⟩ := h
    have f1 := @free_some name
    have f2 := @free_some src
    unfold shapeR shapeP refS tA tB tD tMany hN hS hC hM hB hE
    rw [freesB_all]
    have hnil : cols.length = 0 → cols.all freeB = true ∧ decide cols.Nodup = true := fun h => by
      have := List.eq_nil_of_length_eq_zero h
      subst this
      simp
    generalize cols.all freeB = fc at *
    generalize decide cols.Nodup = nd at *
    generalize cols.length = nc at *
    generalize freeB name = a at *
    generalize freeB src = d at *
    generalize noS name = b at *
    generalize noS src = e at *
    rcases fOf_cases op h1 h2 with rfl | rfl | rfl | rfl | rfl | rfl | rfl | rfl | rfl | rfl
    all_goals
      rcases Nat.eq_zero_or_pos nc with hn0 | hn0
      · obtain ⟨rfl, rfl⟩ := hnil hn0
        subst hn0
        clear hnil
        cases a <;> cases b <;> cases d <;> cases e <;> first | (simp at f1; done) | (simp at f2; done) | (rw [Bool.eq_iff_iff]; simp; done) | (rw [Bool.eq_iff_iff]; simp; omega)
      · clear hnil
        cases a <;> cases b <;> cases d <;> cases e <;> first | (simp at f1; done) | (simp at f2; done) | (rw [Bool.eq_iff_iff]; simp; done) | (rw [Bool.eq_iff_iff]; simp; omega) | (cases fc <;> cases nd <;> first | (rw [Bool.eq_iff_iff]; simp; done) | (rw [Bool.eq_iff_iff]; simp; omega))
  · have hl : refS op name src n cols ne nb nl = false := by
      unfold refS
      by_cases h1 : 1 ≤ op
      · have h2 : ¬ op ≤ 10 := fun h2 => h ⟨h1, h2⟩
        simp [h2]
      · simp [h1]
    rw [hl]
    unfold shapeR
    repeat' (rw [if_neg (by omega)])
end Go.Proofs.Ytgihhkfppnhdpaa

namespace Go.Afx
open Go.RowKit

def startsAt (n : Nat) : Code → Bool
  | .region i _ _ => i == n
  | .seq a _ => startsAt n a
  | .block _ c => startsAt n c
  | .scope c => startsAt n c
  | .loop c => startsAt n c
  | _ => false
def findLoop (n : Nat) : Code → Option Code
  | .loop c => if startsAt n c then some c else findLoop n c
  | .seq a b => match findLoop n a with
    | some c => some c
    | none => findLoop n b
  | .block _ c => findLoop n c
  | .scope c => findLoop n c
  | .cond _ a b => match findLoop n a with
    | some c => some c
    | none => findLoop n b
  | _ => none
def findRegion (n : Nat) : Code → Option Code
  | .region i ops d => if i == n then some (.region i ops d) else none
  | .loop c => findRegion n c
  | .seq a b => match findRegion n a with
    | some c => some c
    | none => findRegion n b
  | .block _ c => findRegion n c
  | .scope c => findRegion n c
  | .cond _ a b => match findRegion n a with
    | some c => some c
    | none => findRegion n b
  | _ => none
def noPanic (Q : Exit → Act → World → Prop) : Exit → Act → World → Prop
  | .panic _, _, _ => False
  | e, a, w => Q e a w
theorem noPanic_then {I : Act → World → Prop} {Q : Exit → Act → World → Prop} (e : Exit) (a : Act) (w : World) (h : Exit.then I (noPanic Q) e a w) : Exit.then I Q e a w := by
  cases e <;> first | exact h | exact False.elim h
section
variable {P : Program} {md : Region.Mode} {ops : Array Oper} {Q : Exit → Act → World → Prop} {S : World → Prop}
/-- an operation that runs is taken -/
theorem tk (i : Nat) (v : Value) {oi : Oper} {fuel : Nat} {listed : Array Bool} {a : Act} {w : World} (hi : ops[i]? = some oi) (hS : S w) (h : wpAnyH P md ops Q S fuel (listed.setIfInBounds i true) (a.put oi.dst v) w)
    (hs : Region.noSelect ops = true := by kernel_rfl) (hf : Region.free md ops listed i = true := by kernel_rfl) (hr : (Region.ready md ops listed).contains i = true := by kernel_rfl)
    (hQ : ∀ c a w, Q (.panic c) (a.put oi.dst v) w → Q (.panic c) a w := by exact fun _ _ _ h => h) (hy : YieldsIf P ops S oi v a := by exact Or.inl ⟨by rfl, fun W hW => by first | (go_simp; done) | (obtain ⟨_, _, _, _⟩ := hW; go_simp)⟩) : wpAnyH P md ops Q S (fuel + 1) listed a w :=
  wpAnyH_take hi hs hf hr hQ hy hS h
/-- an operation whose guard is false is passed over -/
theorem tu (i : Nat) {oi : Oper} {fuel : Nat} {listed : Array Bool} {a : Act} {w : World} (hi : ops[i]? = some oi) (hS : S w) (h : wpAnyH P md ops Q S fuel (listed.setIfInBounds i true) (a.put oi.dst undef) w)
    (hs : Region.noSelect ops = true := by kernel_rfl) (hf : Region.free md ops listed i = true := by kernel_rfl) (hr : (Region.ready md ops listed).contains i = true := by kernel_rfl)
    (hQ : ∀ c a w, Q (.panic c) (a.put oi.dst undef) w → Q (.panic c) a w := by exact fun _ _ _ h => h) (hy : YieldsIf P ops S oi undef a := by exact Or.inr ⟨by rfl, rfl⟩) : wpAnyH P md ops Q S (fuel + 1) listed a w :=
  wpAnyH_take hi hs hf hr hQ hy hS h
end
end Go.Afx

namespace Go.Proofs.Ytgihhkfppnhdpaa
open Go.RowKit Go.Afx

def RBuiltS (F : Nat → Prop) (d : Nat) : Prop := ∀ (x : St) (row : List Value) (w : World), StAt F d w row x →
  Calls Try.prog 44 #[.agg row.toArray] w fun e w' => e = .returned (.bool (builtS d x)) ∧ Below w.heap.size w w'
set_option maxHeartbeats 1000000 in
theorem rblocks_any (F : Nat → Prop) (d : Nat) (ih : RBuiltS F d) (A : Option Addr) (n c : Nat) (xs : List St) (w : World) (h : StsAt F d w A n c xs) :
    Calls Try.prog 29 #[.slice A n c] w fun e w' => e = .returned (.bool (xs.all (builtS d))) ∧ Below w.heap.size w w' := by
  have hn := LsAt.n_le h
  have Ha := Lib.hid (LsAt.len h)
  go_enter Try.func29, Try.ntmps29
  go_wp2
  go_loopw [3] (fun i wr => ∃ k : Nat, k ≤ n ∧ i = .int .i64 k ∧ (∀ y ∈ xs.take k, builtS d y = true) ∧ Below w.heap.size w wr) (fun i _ => n - (intOf i).toNat)
  case atStart => exact ⟨0, Nat.zero_le _, rfl, by simp, Below.refl _ _⟩
  case round =>
    obtain ⟨k, hk, rfl, hall, hB⟩ := hrel
    have Hall := Lib.hid hall
    clear hall
    by_cases hlt : k < n
    · cases d with
      | zero =>
        obtain ⟨b, o, r, e, hA, hbl, _, he, hl, hp, hc⟩ := LsAt.get (StsAt.below h hB) hlt
        exact hp.elim
      | succ d =>
        obtain ⟨b, o, x, Ac2, nc2, cc2, Ae2, ne2, ce2, Ab2, nb2, cb2, Al2, nl2, cl2, rfl, hbl, hx, hc0, hc1, hc2, hc3, hc4, hc5, hc6, hc7, hp, _⟩ := StsAt.get (StsAt.below h hB) hlt
        have Hx := Lib.hid hx
        clear hx
        obtain ⟨q, Hq⟩ : ∃ q, Hid (builtS (d + 1) x = q) := ⟨_, rfl⟩
        have hcall := ih x _ wr hp
        rw [Hq.out] at hcall
        have Hc := Lib.hid hcall
        clear hcall
        cases q
        · go_wp2_with (go_at_call 44; refine Hc.out.mono ?_; rintro y w9 ⟨rfl, hb9⟩)
          go_ret
          have hno : xs.all (builtS (d + 1)) = false := by rw [List.all_eq_false]; exact ⟨x, List.mem_of_getElem? Hx.out, by rw [Hq.out]; simp⟩
          exact ⟨ret_bool hno.symm, hB.trans (hb9.mono hB.size)⟩
        · have Hnx := Lib.hid (mem_take_succ Hx.out Hall.out Hq.out)
          go_wp2_with (go_at_call 44; refine Hc.out.mono ?_; rintro y w9 ⟨rfl, hb9⟩)
          go_roundw
          case rel => exact ⟨k + 1, by omega, by go_num, Hnx.out, hB.trans (hb9.mono hB.size)⟩
          case measure => simp [intOf]; omega
    · go_wp2
      go_ret
      have h1 := Hall.out
      rw [List.take_of_length_le (by rw [Ha.out]; omega)] at h1
      exact ⟨ret_bool (by rw [eq_comm, List.all_eq_true]; exact h1), hB⟩

end Go.Proofs.Ytgihhkfppnhdpaa

namespace Go.Afx
open Go.RowKit

def FitsE : Nat → Ex → Prop
  | 0, _ => False
  | d + 1, e => ∀ x ∈ e.args, FitsE d x
def FitsS : Nat → St → Prop
  | 0, _ => False
  | d + 1, x => (∀ y ∈ x.exprs, FitsE d y) ∧ (∀ y ∈ x.body, FitsS d y) ∧ (∀ y ∈ x.els, FitsS d y)
theorem FitsE.mono (d : Nat) : ∀ {d' : Nat} {e : Ex}, d ≤ d' → FitsE d e → FitsE d' e := by
  induction d with
  | zero => intro d' e _ h; exact h.elim
  | succ d ih =>
    intro d' e hd h
    obtain ⟨d', rfl⟩ : ∃ k, d' = k + 1 := ⟨d' - 1, by omega⟩
    exact fun x hx => ih (by omega) (h x hx)
theorem ls_mem {α : Type} {F : Nat → Prop} {w : World} {sz : Nat} {P : List Value → α → Prop} {A : Option Addr} {n c : Nat} {xs : List α} (h : LsAt F w sz P A n c xs) {x : α} (hx : x ∈ xs) : ∃ r, P r x := by
  obtain ⟨rows, _, _, hl, hp⟩ := h
  obtain ⟨k, hk⟩ := List.mem_iff_getElem?.1 hx
  have hlt := (List.getElem?_eq_some_iff.1 hk).1
  exact ⟨_, (hp k _ x (List.getElem?_eq_getElem (by omega)) hk).2⟩
theorem ExAt.fits {F : Nat → Prop} {w : World} (d : Nat) : ∀ {r : List Value} {e : Ex}, ExAt F d w r e → FitsE d e := by
  induction d with
  | zero => intro r e h; exact h.elim
  | succ d ih =>
    intro r e h x hx
    obtain ⟨_, _, _, _, _, A, m, c, _, hl⟩ := h
    obtain ⟨r2, h2⟩ := ls_mem hl hx
    exact ih h2
theorem StAt.fits {F : Nat → Prop} {w : World} (d : Nat) : ∀ {r : List Value} {e : St}, StAt F d w r e → FitsS d e := by
  induction d with
  | zero => intro r e h; exact h.elim
  | succ d ih =>
    intro r e h
    obtain ⟨_, _, _, _, Ac, nc, cc, Ae, ne, ce, Ab, nb, cb, Al, nl, cl, _, _, k2, k3, k4⟩ := h
    exact ⟨fun y hy => by obtain ⟨r2, h2⟩ := ls_mem k2 hy; exact h2.fits d, fun y hy => by obtain ⟨r2, h2⟩ := ls_mem k3 hy; exact ih h2, fun y hy => by obtain ⟨r2, h2⟩ := ls_mem k4 hy; exact ih h2⟩

theorem map_same {α β : Type} {f g : α → β} {l : List α} (h : ∀ x ∈ l, f x = g x) : l.map f = l.map g := List.map_congr_left h
theorem flat_same {α β : Type} {f g : α → List β} : ∀ {l : List α}, (∀ x ∈ l, f x = g x) → l.flatMap f = l.flatMap g := by
  intro l
  induction l with
  | nil => intro _; rfl
  | cons a r ih => intro h; rw [List.flatMap_cons, List.flatMap_cons, h a (by simp), ih fun x hx => h x (by simp [hx])]
theorem all_same {α : Type} {f g : α → Bool} : ∀ {l : List α}, (∀ x ∈ l, f x = g x) → l.all f = l.all g := by
  intro l
  induction l with
  | nil => intro _; rfl
  | cons a r ih => intro h; rw [List.all_cons, List.all_cons, h a (by simp), ih fun x hx => h x (by simp [hx])]

theorem cntE_fits (d : Nat) : ∀ {d' : Nat} {e : Ex}, d ≤ d' → FitsE d e → cntE d' e = cntE d e := by
  induction d with
  | zero => intro d' e _ h; exact h.elim
  | succ d ih =>
    intro d' e hd h
    obtain ⟨d', rfl⟩ : ∃ k, d' = k + 1 := ⟨d' - 1, by omega⟩
    rw [cntE, cntE, map_same fun x hx => ih (by omega) (h x hx)]
theorem dptE_fits (d : Nat) : ∀ {d' : Nat} {e : Ex}, d ≤ d' → FitsE d e → dptE d' e = dptE d e := by
  induction d with
  | zero => intro d' e _ h; exact h.elim
  | succ d ih =>
    intro d' e hd h
    obtain ⟨d', rfl⟩ : ∃ k, d' = k + 1 := ⟨d' - 1, by omega⟩
    rw [dptE, dptE, map_same fun x hx => ih (by omega) (h x hx)]
theorem builtE_fits (d : Nat) : ∀ {d' : Nat} {e : Ex}, d ≤ d' → FitsE d e → builtE d' e = builtE d e := by
  induction d with
  | zero => intro d' e _ h; exact h.elim
  | succ d ih =>
    intro d' e hd h
    obtain ⟨d', rfl⟩ : ∃ k, d' = k + 1 := ⟨d' - 1, by omega⟩
    rw [builtE, builtE, all_same fun x hx => ih (by omega) (h x hx)]
theorem srcsE_fits (d : Nat) : ∀ {d' : Nat} {e : Ex}, d ≤ d' → FitsE d e → srcsE d' e = srcsE d e := by
  induction d with
  | zero => intro d' e _ h; exact h.elim
  | succ d ih =>
    intro d' e hd h
    obtain ⟨d', rfl⟩ : ∃ k, d' = k + 1 := ⟨d' - 1, by omega⟩
    rw [srcsE, srcsE, flat_same fun x hx => ih (by omega) (h x hx)]
theorem cntS_fits (d : Nat) : ∀ {d' : Nat} {e : St}, d ≤ d' → FitsS d e → cntS d' e = cntS d e := by
  induction d with
  | zero => intro d' e _ h; exact h.elim
  | succ d ih =>
    intro d' e hd h
    obtain ⟨d', rfl⟩ : ∃ k, d' = k + 1 := ⟨d' - 1, by omega⟩
    rw [cntS, cntS, map_same fun x hx => cntE_fits d (by omega) (h.1 x hx), map_same fun x hx => ih (by omega) (h.2.1 x hx), map_same fun x hx => ih (by omega) (h.2.2 x hx)]
theorem dptS_fits (d : Nat) : ∀ {d' : Nat} {e : St}, d ≤ d' → FitsS d e → dptS d' e = dptS d e := by
  induction d with
  | zero => intro d' e _ h; exact h.elim
  | succ d ih =>
    intro d' e hd h
    obtain ⟨d', rfl⟩ : ∃ k, d' = k + 1 := ⟨d' - 1, by omega⟩
    rw [dptS, dptS, map_same fun x hx => dptE_fits d (by omega) (h.1 x hx), map_same fun x hx => ih (by omega) (h.2.1 x hx), map_same fun x hx => ih (by omega) (h.2.2 x hx)]
end Go.Afx

namespace Go.Afx
open Go.RowKit

def tellN (N H : Nat) : Int × Int := if 1000 ≤ N then (1000, 1000) else (N, H)
def tellE (e : Ex) : Int × Int := tellN (cntE 50 e) (dptE 50 e)
def tellS (x : St) : Int × Int := tellN (cntS 101 x) (dptS 101 x)

/-- what is counted so far: of these things -/
def sumT (l : List (Int × Int)) : Int := (l.map (·.1)).sum
def topT (l : List (Int × Int)) : Int := l.foldl (fun m t => max m (t.2 + 1)) 1
theorem sumT_snoc (l : List (Int × Int)) (t : Int × Int) : sumT (l ++ [t]) = sumT l + t.1 := by simp [sumT]
theorem topT_snoc (l : List (Int × Int)) (t : Int × Int) : topT (l ++ [t]) = max (topT l) (t.2 + 1) := by simp [topT]
theorem sumT_app (a b : List (Int × Int)) : sumT (a ++ b) = sumT a + sumT b := by simp [sumT]
theorem fold_max (l : List (Int × Int)) : ∀ m n : Int, l.foldl (fun m t => max m (t.2 + 1)) (max m n) = max m (l.foldl (fun m t => max m (t.2 + 1)) n) := by
  induction l with
  | nil => intro m n; rfl
  | cons a r ih => intro m n; rw [List.foldl_cons, List.foldl_cons, ← ih, Int.max_assoc]
theorem topT_ge (l : List (Int × Int)) : ∀ m : Int, m ≤ l.foldl (fun m t => max m (t.2 + 1)) m := by
  induction l with
  | nil => intro m; exact Int.le_refl _
  | cons a r ih => intro m; rw [List.foldl_cons]; have := ih (max m (a.2 + 1)); omega
theorem topT_app (a b : List (Int × Int)) : topT (a ++ b) = max (topT a) (topT b) := by
  unfold topT
  rw [List.foldl_append]
  have h := topT_ge a 1
  have e : a.foldl (fun m t => max m (t.2 + 1)) 1 = max (a.foldl (fun m t => max m (t.2 + 1)) 1) 1 := by omega
  rw [e, fold_max, ← e]
def Tok (t : Int × Int) : Prop := 0 ≤ t.1 ∧ t.1 ≤ 1000 ∧ 0 ≤ t.2 ∧ t.2 ≤ 1000
theorem tellN_ok {N H : Nat} (h : H ≤ 900) : Tok (tellN N H) := by
  unfold tellN Tok; split <;> simp <;> omega
theorem tellE_ok (e : Ex) : Tok (tellE e) := tellN_ok (by have := dptE_le 50 e; omega)
theorem tellS_ok (x : St) : Tok (tellS x) := tellN_ok (by have := dptS_le 101 x; omega)
theorem tok_okI {t : Int × Int} (h : Tok t) : okI t.1 ∧ okI t.2 := by
  unfold Tok at h; unfold okI; omega
theorem sumT_bd {l : List (Int × Int)} (h : ∀ t ∈ l, Tok t) : 0 ≤ sumT l ∧ sumT l ≤ 1000 * l.length := by
  induction l with
  | nil => simp [sumT]
  | cons a r ih =>
    have h1 := h a (by simp)
    have h2 := ih fun t ht => h t (by simp [ht])
    unfold Tok at h1
    have e : sumT (a :: r) = a.1 + sumT r := by simp [sumT]
    rw [e, List.length_cons]
    omega
theorem topT_le {l : List (Int × Int)} {b : Int} (h : ∀ t ∈ l, t.2 + 1 ≤ b) : ∀ m : Int, m ≤ b → l.foldl (fun m t => max m (t.2 + 1)) m ≤ b := by
  induction l with
  | nil => intro m hm; exact hm
  | cons a r ih => intro m hm; rw [List.foldl_cons]; exact ih (fun t ht => h t (by simp [ht])) _ (by have := h a (by simp); omega)
theorem topT_bd {l : List (Int × Int)} (h : ∀ t ∈ l, Tok t) : 1 ≤ topT l ∧ topT l ≤ 1001 :=
  ⟨topT_ge l 1, topT_le (fun t ht => by have := (h t ht).2.2.2; omega) 1 (by omega)⟩

/-- counts N and H beside what was told of each -/
theorem tells_all {P : List (Nat × Nat)} (h : ∀ p ∈ P, p.2 ≤ 900) : toldZ (1 + sumT (P.map fun p => tellN p.1 p.2), topT (P.map fun p => tellN p.1 p.2)) = tellN (1 + (P.map (·.1)).sum) (1 + maxN (P.map (·.2))) := by
  have hn : ∀ Q : List (Nat × Nat), (∀ p ∈ Q, p.1 < 1000) → sumT (Q.map fun p => tellN p.1 p.2) = ((Q.map (·.1)).sum : Nat) ∧ ∀ m : Nat, (Q.map fun p => tellN p.1 p.2).foldl (fun m t => max m (t.2 + 1)) ((m : Int) + 1) = ((1 + max m (maxN (Q.map (·.2))) : Nat) : Int) := by
    intro Q
    induction Q with
    | nil => intro _; exact ⟨by simp [sumT], fun m => by simp [maxN]; omega⟩
    | cons a r ih =>
      intro hq
      obtain ⟨i1, i2⟩ := ih fun p hp => hq p (by simp [hp])
      have ha : tellN a.1 a.2 = ((a.1 : Int), (a.2 : Int)) := by have := hq a (by simp); unfold tellN; rw [if_neg (by omega)]
      refine ⟨?_, fun m => ?_⟩
      · simp only [List.map_cons, List.sum_cons, ha]
        have e : sumT (((a.1 : Int), (a.2 : Int)) :: r.map fun p => tellN p.1 p.2) = a.1 + sumT (r.map fun p => tellN p.1 p.2) := by simp [sumT]
        rw [e, i1]; omega
      · simp only [List.map_cons, List.foldl_cons, ha]
        have e : max ((m : Int) + 1) ((a.2 : Int) + 1) = ((max m a.2 : Nat) : Int) + 1 := by omega
        rw [e, i2, maxN_cons]
        omega
  by_cases hall : ∀ p ∈ P, p.1 < 1000
  · obtain ⟨h1, h2⟩ := hn P hall
    have h3 := h2 0
    simp only [Nat.zero_max, Int.natCast_zero, Int.zero_add] at h3
    have h4 : maxN (P.map (·.2)) ≤ 900 := maxN_le fun x hx => by obtain ⟨p, hp, rfl⟩ := List.mem_map.1 hx; exact h p hp
    have h5 : topT (P.map fun p => tellN p.1 p.2) = ((1 + maxN (P.map (·.2)) : Nat) : Int) := h3
    rw [h1, h5]
    unfold toldZ fullZ tellN
    by_cases hN : 1000 ≤ 1 + (P.map (·.1)).sum
    · rw [if_pos hN, if_pos]
      simp; omega
    · rw [if_neg hN, if_neg]
      · simp
      · simp; omega
  · have hall : ∃ p ∈ P, 1000 ≤ p.1 := by
      apply Classical.byContradiction
      intro hc
      exact hall fun p hp => by
        apply Classical.byContradiction
        intro h1
        exact hc ⟨p, hp, by omega⟩
    obtain ⟨p, hp, hp1⟩ := hall
    have h1 : 1000 ≤ (P.map (·.1)).sum := by
      have : ∀ Q : List (Nat × Nat), p ∈ Q → p.1 ≤ (Q.map (·.1)).sum := by
        intro Q
        induction Q with
        | nil => intro h; cases h
        | cons a r ih =>
          intro h
          rw [List.map_cons, List.sum_cons]
          rcases List.mem_cons.1 h with rfl | h
          · omega
          · have := ih h; omega
      have := this P hp
      omega
    have hok : ∀ t ∈ P.map (fun p => tellN p.1 p.2), Tok t := fun t ht => by obtain ⟨q, hq, rfl⟩ := List.mem_map.1 ht; exact tellN_ok (h q hq)
    have h2 : 1000 ≤ sumT (P.map fun p => tellN p.1 p.2) := by
      have : ∀ Q : List (Int × Int), (∀ t ∈ Q, Tok t) → (1000, 1000) ∈ Q → 1000 ≤ sumT Q := by
        intro Q
        induction Q with
        | nil => intro _ h; cases h
        | cons a r ih =>
          intro hq h
          have e : sumT (a :: r) = a.1 + sumT r := by simp [sumT]
          rw [e]
          have b := (sumT_bd fun t ht => hq t (List.mem_cons_of_mem _ ht)).1
          rcases List.mem_cons.1 h with rfl | h
          · show (1000 : Int) ≤ 1000 + sumT r; omega
          · have a1 := (hq a (by simp)).1
            have := ih (fun t ht => hq t (by simp [ht])) h
            omega
      exact this _ hok (List.mem_map.2 ⟨p, hp, if_pos hp1⟩)
    unfold toldZ fullZ tellN at *
    rw [if_pos (by simp; omega), if_pos (by omega)]

theorem tell_mkE {op n : Int} {s name src : ByteArray} {args : List Ex} (h : ∀ a ∈ args, FitsE 49 a) : toldZ (1 + sumT (args.map tellE), topT (args.map tellE)) = tellE (.mk op n s name src args) := by
  have h1 := tells_all (P := args.map fun a => (cntE 50 a, dptE 50 a)) (fun p hp => by obtain ⟨a, _, rfl⟩ := List.mem_map.1 hp; have := dptE_le 50 a; simp only; omega)
  rw [List.map_map, List.map_map, List.map_map] at h1
  have e1 : args.map ((fun p : Nat × Nat => tellN p.1 p.2) ∘ fun a => (cntE 50 a, dptE 50 a)) = args.map tellE := rfl
  have e2 : args.map ((fun p : Nat × Nat => p.1) ∘ fun a => (cntE 50 a, dptE 50 a)) = args.map (cntE 49) := map_same fun a ha => cntE_fits 49 (by omega) (h a ha)
  have e3 : args.map ((fun p : Nat × Nat => p.2) ∘ fun a => (cntE 50 a, dptE 50 a)) = args.map (dptE 49) := map_same fun a ha => dptE_fits 49 (by omega) (h a ha)
  rw [e1, e2, e3] at h1
  exact h1
theorem sum_app3 (a b c : List Nat) : (a ++ b ++ c).sum = a.sum + b.sum + c.sum := by simp; omega
theorem maxN_app (a b : List Nat) : maxN (a ++ b) = max (maxN a) (maxN b) := by
  induction a with
  | nil => simp [maxN]
  | cons x r ih => rw [List.cons_append, maxN_cons, maxN_cons, ih]; omega
theorem tell_mkS {op n : Int} {name src : ByteArray} {cols : List ByteArray} {exprs : List Ex} {body els : List St} (he : ∀ a ∈ exprs, FitsE 50 a) (hb : ∀ a ∈ body, FitsS 100 a) (hl : ∀ a ∈ els, FitsS 100 a) :
    toldZ (1 + (sumT (exprs.map tellE) + sumT (body.map tellS) + sumT (els.map tellS)), max (max (topT (exprs.map tellE)) (topT (body.map tellS))) (topT (els.map tellS))) = tellS (.mk op name src n cols exprs body els) := by
  rw [← sumT_app, ← sumT_app, ← topT_app, ← topT_app]
  have h1 := tells_all (P := (exprs.map fun a => (cntE 50 a, dptE 50 a)) ++ (body.map fun a => (cntS 101 a, dptS 101 a)) ++ (els.map fun a => (cntS 101 a, dptS 101 a))) (fun p hp => by
    rcases List.mem_append.1 hp with hp | hp
    · rcases List.mem_append.1 hp with hp | hp
      · obtain ⟨a, _, rfl⟩ := List.mem_map.1 hp; have := dptE_le 50 a; simp only; omega
      · obtain ⟨a, _, rfl⟩ := List.mem_map.1 hp; have := dptS_le 101 a; simp only; omega
    · obtain ⟨a, _, rfl⟩ := List.mem_map.1 hp; have := dptS_le 101 a; simp only; omega)
  simp only [List.map_append, List.map_map] at h1
  rw [sum_app3, maxN_app, maxN_app] at h1
  have e1 : exprs.map ((fun p : Nat × Nat => tellN p.1 p.2) ∘ fun a => (cntE 50 a, dptE 50 a)) = exprs.map tellE := rfl
  have f1 : body.map ((fun p : Nat × Nat => tellN p.1 p.2) ∘ fun a => (cntS 101 a, dptS 101 a)) = body.map tellS := rfl
  have f2 : els.map ((fun p : Nat × Nat => tellN p.1 p.2) ∘ fun a => (cntS 101 a, dptS 101 a)) = els.map tellS := rfl
  have e2 : exprs.map ((fun p : Nat × Nat => p.1) ∘ fun a => (cntE 50 a, dptE 50 a)) = exprs.map (cntE 100) := map_same fun a ha => (cntE_fits 50 (by omega) (he a ha)).symm
  have e3 : exprs.map ((fun p : Nat × Nat => p.2) ∘ fun a => (cntE 50 a, dptE 50 a)) = exprs.map (dptE 100) := map_same fun a ha => (dptE_fits 50 (by omega) (he a ha)).symm
  have g2 : body.map ((fun p : Nat × Nat => p.1) ∘ fun a => (cntS 101 a, dptS 101 a)) = body.map (cntS 100) := map_same fun a ha => cntS_fits 100 (by omega) (hb a ha)
  have g3 : body.map ((fun p : Nat × Nat => p.2) ∘ fun a => (cntS 101 a, dptS 101 a)) = body.map (dptS 100) := map_same fun a ha => dptS_fits 100 (by omega) (hb a ha)
  have k2 : els.map ((fun p : Nat × Nat => p.1) ∘ fun a => (cntS 101 a, dptS 101 a)) = els.map (cntS 100) := map_same fun a ha => cntS_fits 100 (by omega) (hl a ha)
  have k3 : els.map ((fun p : Nat × Nat => p.2) ∘ fun a => (cntS 101 a, dptS 101 a)) = els.map (dptS 100) := map_same fun a ha => dptS_fits 100 (by omega) (hl a ha)
  rw [e1, f1, f2, e2, e3, g2, g3, k2, k3] at h1
  rw [h1]
  unfold tellS
  rw [cntS, dptS]
  simp only [St.exprs, St.body, St.els]
  congr 1
  omega
end Go.Afx

namespace Go.Afx
open Go.RowKit

theorem ExAt.turn {F F' : Nat → Prop} {w w' : World} (hF : ∀ k, k < w.heap.size → F k → F' k) (hk : Kept F w w') : ∀ (d : Nat) {d' : Nat} {r : List Value} {e : Ex}, d ≤ d' → ExAt F d w r e → ExAt F' d' w' r e := by
  intro d
  induction d with
  | zero => intro d' r e _ h; exact h.elim
  | succ d ih =>
    intro d' r e hd h
    obtain ⟨d', rfl⟩ : ∃ k, d' = k + 1 := ⟨d' - 1, by omega⟩
    obtain ⟨h1, h2, h3, h4, h5, A, m, c, hr, hl⟩ := h
    exact ⟨h1, h2, h3, h4, h5, A, m, c, hr, hl.conv hk (fun a ha h0 h => hF _ (hl.lt h0 a ha) h) fun r x _ hx => ih (by omega) hx⟩
theorem ExsAt.turn {F F' : Nat → Prop} {w w' : World} (hF : ∀ k, k < w.heap.size → F k → F' k) (hk : Kept F w w') {d d' : Nat} (hd : d ≤ d') {A : Option Addr} {n c : Nat} {es : List Ex} (h : ExsAt F d w A n c es) : ExsAt F' d' w' A n c es :=
  LsAt.conv h hk (fun a ha h0 hf => hF _ (LsAt.lt h h0 a ha) hf) fun _ _ _ hx => ExAt.turn hF hk d hd hx
theorem StAt.turn {F F' : Nat → Prop} {w w' : World} (hF : ∀ k, k < w.heap.size → F k → F' k) (hk : Kept F w w') : ∀ (d : Nat) {d' : Nat} {r : List Value} {e : St}, d ≤ d' → StAt F d w r e → StAt F' d' w' r e := by
  intro d
  induction d with
  | zero => intro d' r e _ h; exact h.elim
  | succ d ih =>
    intro d' r e hd h
    obtain ⟨d', rfl⟩ : ∃ k, d' = k + 1 := ⟨d' - 1, by omega⟩
    obtain ⟨h1, h2, h3, h4, Ac, nc, cc, Ae, ne, ce, Ab, nb, cb, Al, nl, cl, hr, k1, k2, k3, k4⟩ := h
    exact ⟨h1, h2, h3, h4, Ac, nc, cc, Ae, ne, ce, Ab, nb, cb, Al, nl, cl, hr, k1.conv hk (fun a ha h0 h => hF _ (k1.lt h0 a ha) h) (fun _ _ _ h => h), ExsAt.turn hF hk (by omega) k2,
      k3.conv hk (fun a ha h0 h => hF _ (k3.lt h0 a ha) h) (fun _ _ _ hx => ih (by omega) hx), k4.conv hk (fun a ha h0 h => hF _ (k4.lt h0 a ha) h) (fun _ _ _ hx => ih (by omega) hx)⟩
theorem StsAt.turn {F F' : Nat → Prop} {w w' : World} (hF : ∀ k, k < w.heap.size → F k → F' k) (hk : Kept F w w') {d d' : Nat} (hd : d ≤ d') {A : Option Addr} {n c : Nat} {es : List St} (h : StsAt F d w A n c es) : StsAt F' d' w' A n c es :=
  LsAt.conv h hk (fun a ha h0 hf => hF _ (LsAt.lt h h0 a ha) hf) fun _ _ _ hx => StAt.turn hF hk d hd hx

/-- the blocks of this hue -/
def Hu (hue : Nat → Nat) (i : Nat) : Nat → Prop := fun b => hue b = i
/-- what is new is of this hue -/
def hueNew (hue : Nat → Nat) (w : World) (i : Nat) : Nat → Nat := fun b => if b < w.heap.size then hue b else i
theorem hueNew_old {hue : Nat → Nat} {w : World} {i : Nat} : ∀ k, k < w.heap.size → hueNew hue w i k = hue k := fun _ hk => if_pos hk
theorem hueNew_new {hue : Nat → Nat} {w : World} {i k : Nat} (hk : w.heap.size ≤ k) : hueNew hue w i k = i := if_neg (by omega)

/-- 'the slice is the call's own, of the hue i, and holds these rows' -/
structure HueRow (hue : Nat → Nat) (i base : Nat) (w : World) (T : TypeId) (sz : Nat) (A : Option Addr) (n c : Nat) (rows : List (List Value)) : Prop where
  own : w.ownsRow base T sz (.slice A n c) n rows.flatten
  hue : ∀ a, A = some a → hue a.block = i
  len : rows.length = n
  wid : ∀ r ∈ rows, r.length = sz

section
variable {hue hue' : Nat → Nat} {i base : Nat} {w w' w2 : World} {T : TypeId} {sz : Nat} {A : Option Addr} {n c : Nat} {rows : List (List Value)} {S : Nat → Prop}
theorem HueRow.lt (h : HueRow hue i base w T sz A n c rows) : ∀ a, A = some a → a.block < w.heap.size := by
  intro a ha; subst ha; exact (h.own.lt a.block rfl).2
theorem HueRow.nil_ (hue : Nat → Nat) (i base : Nat) (w : World) (T : TypeId) (sz : Nat) : HueRow hue i base w T sz none 0 0 [] := ⟨World.ownsRow_nil _ _ _ _, (by intro a h; cases h), rfl, (by intro r h; cases h)⟩
theorem HueRow.at_ (h : HueRow hue i base w T sz A n c rows) : RowsAt w sz A n c rows := RowsAt.of_own h.own h.wid h.len
theorem HueRow.keep (h : HueRow hue i base w T sz A n c rows) (hb : But S w w') (hS : ∀ k, k < w.heap.size → S k → hue k ≠ i) (hh : ∀ k, k < w.heap.size → hue' k = hue k) : HueRow hue' i base w' T sz A n c rows := by
  refine ⟨own_but h.own hb fun g hg hs => ?_, fun a ha => ?_, h.len, h.wid⟩
  · cases A with
    | none => cases hg
    | some a =>
      have e : a.block = g := by simpa [Value.ownBlock] using hg
      subst e
      exact hS _ (h.lt a rfl) hs (h.hue a rfl)
  · rw [hh _ (h.lt a ha)]; exact h.hue a ha
/-- a row grows, and its slice is laid into a box -/
theorem HueRow.grow (h : HueRow hue i base w T sz A n c rows) {o : Obj} {A2 : Option Addr} {m c2 bt j : Nat} {news : List (List Value)} {u : Value}
    (hown : w2.ownsRow base T sz (.slice A2 (n + m) c2) (n + m) (rows ++ news).flatten) (hnl : news.length = m) (hnw : ∀ r ∈ news, r.length = sz) (hbut : But (fun k => A.map (·.block) = some k) (w.alloc o) w2)
    (hf : ∀ a2, A2 = some a2 → A = some a2 ∨ (w.alloc o).heap.size ≤ a2.block) (hbt : bt < w.heap.size) (hbi : hue bt ≠ i) :
    HueRow (hueNew hue w i) i base (w2.setCell ⟨bt, j, none⟩ u) T sz A2 (n + m) c2 (rows ++ news) ∧ But (fun k => hue k = i ∨ k = bt) w (w2.setCell ⟨bt, j, none⟩ u) := by
  have hz := hbut.size
  simp only [World.alloc, Array.size_push] at hz
  have hA2 : ∀ a2, A2 = some a2 → hueNew hue w i a2.block = i := by
    intro a2 ha
    rcases hf a2 ha with h1 | h1
    · rw [hueNew_old _ (h.lt a2 h1)]; exact h.hue a2 h1
    · simp only [World.alloc, Array.size_push] at h1; exact hueNew_new (by omega)
  have hb1 : But (fun k => hue k = i ∨ k = bt) w w2 := ((But.refl _ w).alloc o).trans hbut fun k hk => by
    cases A with
    | none => cases hk
    | some a =>
      have e : a.block = k := by simpa using hk
      subst e
      exact .inl (.inl (h.hue a rfl))
  refine ⟨⟨?_, hA2, by simp [h.len, hnl], fun r hr => ?_⟩, hb1.setCell (p := ⟨bt, j, none⟩) (.inl (.inr rfl)) u⟩
  · refine own_but hown ((But.refl (fun k => k = bt) w2).setCell (p := ⟨bt, j, none⟩) (.inl rfl) u) fun g hg e => ?_
    subst e
    cases A2 with
    | none => cases hg
    | some a2 =>
      have e : a2.block = g := by simpa [Value.ownBlock] using hg
      have h1 := hA2 a2 rfl
      rw [e, hueNew_old _ hbt] at h1
      exact hbi h1
  · rcases List.mem_append.1 hr with hr | hr
    · exact h.wid r hr
    · exact hnw r hr
end

/-- three lists that grow side by side: things, and two numbers of each -/
structure Tri {α : Type} (hue : Nat → Nat) (i base : Nat) (w : World) (T : TypeId) (sz : Nat) (TI : TypeId) (P : Nat → List Value → α → Prop) (tell : α → Int × Int) (A0 : Option Addr) (c0 : Nat) (A1 : Option Addr) (c1 : Nat) (A2 : Option Addr) (c2 : Nat) (xs : List α) : Prop where
  rows : ∃ rows, HueRow hue i base w T sz A0 xs.length c0 rows ∧ ∀ (k : Nat) (r : List Value) (x : α), rows[k]? = some r → xs[k]? = some x → P k r x
  nodes : HueRow hue (i + 1) base w TI 1 A1 xs.length c1 (xs.map fun x => [.int .i64 (tell x).1])
  deep : HueRow hue (i + 2) base w TI 1 A2 xs.length c2 (xs.map fun x => [.int .i64 (tell x).2])

section
variable {α : Type} {hue hue' : Nat → Nat} {i base : Nat} {w w' : World} {T : TypeId} {sz : Nat} {TI : TypeId} {P P' : Nat → List Value → α → Prop} {tell : α → Int × Int} {A0 A1 A2 : Option Addr} {c0 c1 c2 : Nat} {xs : List α} {S : Nat → Prop}
theorem Tri.nil_ (hue : Nat → Nat) (i base : Nat) (w : World) (T : TypeId) (sz : Nat) (TI : TypeId) (P : Nat → List Value → α → Prop) (tell : α → Int × Int) : Tri hue i base w T sz TI P tell none 0 none 0 none 0 [] :=
  ⟨⟨[], HueRow.nil_ _ _ _ _ _ _, fun k r x h => by simp at h⟩, HueRow.nil_ _ _ _ _ _ _, HueRow.nil_ _ _ _ _ _ _⟩
theorem Tri.keep (h : Tri hue i base w T sz TI P tell A0 c0 A1 c1 A2 c2 xs) (hb : But S w w') (hS : ∀ k, k < w.heap.size → S k → hue k ≠ i ∧ hue k ≠ i + 1 ∧ hue k ≠ i + 2) (hh : ∀ k, k < w.heap.size → hue' k = hue k) (hP : ∀ k r x, x ∈ xs → P k r x → P' k r x) :
    Tri hue' i base w' T sz TI P' tell A0 c0 A1 c1 A2 c2 xs := by
  obtain ⟨⟨rows, h1, h2⟩, h3, h4⟩ := h
  exact ⟨⟨rows, h1.keep hb (fun k hk hs => (hS k hk hs).1) hh, fun k r x hr hx => hP k r x (List.mem_of_getElem? hx) (h2 k r x hr hx)⟩, h3.keep hb (fun k hk hs => (hS k hk hs).2.1) hh, h4.keep hb (fun k hk hs => (hS k hk hs).2.2) hh⟩
theorem Tri.get (h : Tri hue i base w T sz TI P tell A0 c0 A1 c1 A2 c2 xs) {k : Nat} (hk : k < xs.length) :
    ∃ b0 b1 b2 r x, A0 = some ⟨b0, 0, none⟩ ∧ A1 = some ⟨b1, 0, none⟩ ∧ A2 = some ⟨b2, 0, none⟩ ∧ b0 < w.heap.size ∧ b1 < w.heap.size ∧ b2 < w.heap.size ∧ xs[k]? = some x ∧ r.length = sz ∧ P k r x ∧ (∀ j u, r[j]? = some u → w.cell? ⟨b0, k * sz + j, none⟩ = some u) ∧
      w.cell? ⟨b1, k, none⟩ = some (.int .i64 (tell x).1) ∧ w.cell? ⟨b2, k, none⟩ = some (.int .i64 (tell x).2) ∧ hue b0 = i ∧ hue b1 = i + 1 ∧ hue b2 = i + 2 := by
  obtain ⟨⟨rows, h1, h2⟩, h3, h4⟩ := h
  have hx : xs[k]? = some xs[k] := List.getElem?_eq_getElem hk
  have hr : rows[k]? = some (rows[k]'(by have := h1.len; omega)) := List.getElem?_eq_getElem _
  obtain ⟨g0, cap0, e0, _⟩ := h1.own.form (by omega)
  obtain ⟨g1, cap1, e1, _⟩ := h3.own.form (by omega)
  obtain ⟨g2, cap2, e2, _⟩ := h4.own.form (by omega)
  simp only [Value.slice.injEq] at e0 e1 e2
  obtain ⟨rfl, _, rfl⟩ := e0
  obtain ⟨rfl, _, rfl⟩ := e1
  obtain ⟨rfl, _, rfl⟩ := e2
  obtain ⟨b, o, hA, hb, hc⟩ := h1.at_.at_ k _ hr
  obtain ⟨b', o', hA', hb', hc'⟩ := h3.at_.one (u := .int .i64 (tell xs[k]).1) (k := k) (by rw [List.getElem?_map, hx]; rfl)
  obtain ⟨b'', o'', hA'', hb'', hc''⟩ := h4.at_.one (u := .int .i64 (tell xs[k]).2) (k := k) (by rw [List.getElem?_map, hx]; rfl)
  simp only [Option.some.injEq, Addr.mk.injEq, and_true] at hA hA' hA''
  obtain ⟨rfl, rfl⟩ := hA
  obtain ⟨rfl, rfl⟩ := hA'
  obtain ⟨rfl, rfl⟩ := hA''
  exact ⟨_, _, _, _, _, rfl, rfl, rfl, hb, hb', hb'', hx, h1.wid _ (List.mem_of_getElem? hr), h2 k _ _ hr hx, fun j u hj => by simpa using hc j u hj, by simpa using hc', by simpa using hc'', h1.hue _ rfl, h3.hue _ rfl, h4.hue _ rfl⟩
/-- what is grown to its end is a list -/
theorem Tri.lists {F : Nat → Prop} {Q : List Value → α → Prop} (h : Tri hue i base w T sz TI P tell A0 c0 A1 c1 A2 c2 xs) (hF : ∀ k, k < w.heap.size → (hue k = i ∨ hue k = i + 1 ∨ hue k = i + 2) → F k) (hQ : ∀ k r x, k < xs.length → P k r x → Q r x) (htell : ∀ x, okI (tell x).1 ∧ okI (tell x).2) :
    LsAt F w sz Q A0 xs.length c0 xs ∧ LsAt F w 1 IRow A1 xs.length c1 (xs.map fun x => (tell x).1) ∧ LsAt F w 1 IRow A2 xs.length c2 (xs.map fun x => (tell x).2) := by
  obtain ⟨⟨rows, h1, h2⟩, h3, h4⟩ := h
  refine ⟨⟨rows, h1.at_, fun a ha _ => hF _ (h1.lt a ha) (.inl (h1.hue a ha)), h1.len, fun k r x hr hx => ⟨h1.wid r (List.mem_of_getElem? hr), hQ k r x (List.getElem?_eq_some_iff.1 hx).1 (h2 k r x hr hx)⟩⟩,
    ⟨_, h3.at_, fun a ha _ => hF _ (h3.lt a ha) (.inr (.inl (h3.hue a ha))), by simp, fun k r x hr hx => ?_⟩, ⟨_, h4.at_, fun a ha _ => hF _ (h4.lt a ha) (.inr (.inr (h4.hue a ha))), by simp, fun k r x hr hx => ?_⟩⟩
  · rw [List.getElem?_map] at hr hx
    obtain ⟨y, hy, rfl⟩ := Option.map_eq_some_iff.1 hr
    rw [hy] at hx
    injection hx with hx
    subst hx
    exact ⟨rfl, rfl, (htell y).1⟩
  · rw [List.getElem?_map] at hr hx
    obtain ⟨y, hy, rfl⟩ := Option.map_eq_some_iff.1 hr
    rw [hy] at hx
    injection hx with hx
    subst hx
    exact ⟨rfl, rfl, (htell y).2⟩
end
end Go.Afx
