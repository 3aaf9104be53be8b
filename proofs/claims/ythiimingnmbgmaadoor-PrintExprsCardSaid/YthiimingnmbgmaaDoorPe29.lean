/- Parts of this proof, one behind the other: PrtE, PrtF. -/
import Derived.Test.YthiimingnmbgmaaDoorPe28
import Derived.Deep.RegionHeld3
import Derived.RegionTactic
import Derived.ChangeAlike
namespace Go.Proofs.YthiimingnmbgmaaDoor
open Go.RowKit Go.Afx

def SignQ (op : Int) (w : World) (e : Ending) (w' : World) : Prop := e = .returned (.tuple #[.string ⟨(sgnL op).toArray⟩, .int .i64 (lvlZ op)]) ∧ Below w.heap.size w w'
set_option maxHeartbeats 4000000 in
theorem sign_a (op : Int) (w : World) (h : op = 1 ∨ op = 2 ∨ op = 3 ∨ op = 4 ∨ op = 5 ∨ op = 11 ∨ op = 12 ∨ op = 13 ∨ op = 14 ∨ op = 15 ∨ op = 16 ∨ op = 21 ∨ op = 22 ∨ op = 23 ∨ op = 24) : Calls Tryd.prog 29 #[.int .i64 op] w (SignQ op w) := by
  have hb : ∀ o, Below w.heap.size w (w.alloc o) := fun o => (Below.refl _ _).alloc (Nat.le_refl _) o
  rcases h with rfl | rfl | rfl | rfl | rfl | rfl | rfl | rfl | rfl | rfl | rfl | rfl | rfl | rfl | rfl
  all_goals
    go_enter Tryd.func29, Tryd.ntmps29
    go_wp2
    go_ret2
    first | exact ⟨rfl, Below.refl _ _⟩ | exact ⟨rfl, hb _⟩
set_option maxHeartbeats 4000000 in
theorem sign_b (op : Int) (w : World) (h : op = 6 ∨ op = 7 ∨ op = 8 ∨ op = 9 ∨ op = 10 ∨ op = 17 ∨ op = 18 ∨ op = 19 ∨ op = 20) : Calls Tryd.prog 29 #[.int .i64 op] w (SignQ op w) := by
  rcases h with rfl | rfl | rfl | rfl | rfl | rfl | rfl | rfl | rfl
  all_goals
    go_enter Tryd.func29, Tryd.ntmps29
    go_wp2
    go_region
    all_goals
      go_wp2
      go_ret2
      exact ⟨rfl, by repeat (first | exact Below.refl _ _ | refine Below.drew ?_ | refine Below.alloc ?_ (by simp) _ | refine Below.alloc ?_ (by simp; omega) _)⟩
theorem sign_any (op : Int) (w : World) (h1 : 1 ≤ op) (h2 : op ≤ 24) : Calls Tryd.prog 29 #[.int .i64 op] w (SignQ op w) := by
  by_cases h : op = 6 ∨ op = 7 ∨ op = 8 ∨ op = 9 ∨ op = 10 ∨ op = 17 ∨ op = 18 ∨ op = 19 ∨ op = 20
  · exact sign_b op w h
  · exact sign_a op w (by omega)
end Go.Proofs.YthiimingnmbgmaaDoor

namespace Go.Proofs.YthiimingnmbgmaaDoor
open Go.RowKit Go.Afx

theorem equal_none (A : Option Addr) (c : Nat) (f : Value) (w : World) : Calls Tryd.prog 61 #[.slice A 0 c, .slice none 0 0, f] w fun e w' => e = .returned (.bool true) ∧ w = w' := by
  go_enter Tryd.func61, Tryd.ntmps61
  go_wp2
  refine wp_loop_rounds 1 ?_
  rw [rounds_succ]
  go_wp2
  go_ret
  exact ⟨rfl, rfl⟩
def SameQ (b : Bool) (w : World) (e : Ending) (w' : World) : Prop := e = .returned (.bool b) ∧ Below w.heap.size w w'
theorem two_laid (w : World) (o o2 : Obj) : Below w.heap.size w ((w.alloc o).alloc o2) := ((Below.refl _ _).alloc (Nat.le_refl _) _).alloc (by simp) _
set_option maxHeartbeats 1000000 in
theorem same_not3 (op n : Int) (s name src : ByteArray) (A : Option Addr) (m c : Nat) (w : World) (h : op ≠ 3) :
    Calls Tryd.prog 52 #[.agg #[.int .i64 op, .int .i64 n, .string s, .string name, .string src, .slice A m c], .agg #[.int .i64 3, .int .i64 1, .string ⟨#[]⟩, .string ⟨#[]⟩, .string ⟨#[]⟩, .slice none 0 0]] w (SameQ false w) := by
  have e : (op == 3) = false := by simpa using h
  clear h
  go_enter Tryd.func52, Tryd.ntmps52
  go_wp2
  go_ret
  exact ⟨rfl, two_laid _ _ _⟩
set_option maxHeartbeats 1000000 in
theorem same_false (n : Int) (s name src : ByteArray) (A : Option Addr) (m c : Nat) (w : World) (h : n ≠ 1) :
    Calls Tryd.prog 52 #[.agg #[.int .i64 3, .int .i64 n, .string s, .string name, .string src, .slice A m c], .agg #[.int .i64 3, .int .i64 1, .string ⟨#[]⟩, .string ⟨#[]⟩, .string ⟨#[]⟩, .slice none 0 0]] w (SameQ false w) := by
  have e : (n == 1) = false := by simpa using h
  clear h
  go_enter Tryd.func52, Tryd.ntmps52
  go_wp2
  go_ret
  exact ⟨rfl, two_laid _ _ _⟩
set_option maxHeartbeats 1000000 in
theorem same_true (A : Option Addr) (c : Nat) (w : World) :
    Calls Tryd.prog 52 #[.agg #[.int .i64 3, .int .i64 1, .string ⟨#[]⟩, .string ⟨#[]⟩, .string ⟨#[]⟩, .slice A 0 c], .agg #[.int .i64 3, .int .i64 1, .string ⟨#[]⟩, .string ⟨#[]⟩, .string ⟨#[]⟩, .slice none 0 0]] w (SameQ true w) := by
  go_enter Tryd.func52, Tryd.ntmps52
  go_wp2_with (go_at_call 61; refine (equal_none _ _ _ _).mono ?_; rintro e w' ⟨rfl, rfl⟩)
  go_ret
  exact ⟨rfl, two_laid _ _ _⟩
/-- whether what must be true of a row is 'true' -/
theorem same_any (F : Nat → Prop) (d : Nat) (x : Ex) (row : List Value) (w : World) (h : ExAt F d w row x) (hb : builtE d x = true) :
    Calls Tryd.prog 52 #[.agg row.toArray, .agg #[.int .i64 3, .int .i64 1, .string ⟨#[]⟩, .string ⟨#[]⟩, .string ⟨#[]⟩, .slice none 0 0]] w (SameQ (decide (x.op = 3 ∧ x.n = 1)) w) := by
  cases d with
  | zero => exact h.elim
  | succ d =>
    obtain ⟨_, _, _, _, _, A, m, c, rfl, hl⟩ := h.open_
    obtain ⟨ha, hf, _⟩ := built_parts hb
    by_cases h3 : x.op = 3
    · by_cases h1 : x.n = 1
      · have hd : decide (x.op = 3 ∧ x.n = 1) = true := by simp [h3, h1]
        rw [hd]
        rw [h3] at ha hf ⊢
        rw [h1] at hf ⊢
        have e1 : x.args.length = 0 := by
          have : arityB 3 = 0 := rfl
          omega
        have e2 : m = 0 := by rw [← LsAt.len hl]; exact e1
        subst e2
        have hff : fieldsR 3 1 x.s x.name x.src = (noS x.s && noS x.name && noS x.src) := by simp [fieldsR]
        rw [hff] at hf
        simp only [Bool.and_eq_true] at hf
        obtain ⟨⟨f1, f2⟩, f3⟩ := hf
        unfold noS at f1 f2 f3
        simp only [decide_eq_true_eq] at f1 f2 f3
        rw [f1, f2, f3]
        exact same_true A c w
      · have hd : decide (x.op = 3 ∧ x.n = 1) = false := by simp [h1]
        rw [hd, h3]
        exact same_false _ _ _ _ A m c w h1
    · have hd : decide (x.op = 3 ∧ x.n = 1) = false := by simp [h3]
      rw [hd]
      exact same_not3 _ _ _ _ _ A m c w h3
end Go.Proofs.YthiimingnmbgmaaDoor
