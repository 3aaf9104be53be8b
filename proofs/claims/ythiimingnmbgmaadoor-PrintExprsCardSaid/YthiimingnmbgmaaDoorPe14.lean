/- Parts of this proof, one behind the other: RefE. -/
import Derived.Test.YthiimingnmbgmaaDoorPe13
import Derived.Deep.Cut
namespace Go.Proofs.YthiimingnmbgmaaDoor
open Go.RowKit Go.Afx

def headR (op n : Int) (s name src : ByteArray) (l : Nat) : Bool := decide (arityB op = (l : Int)) && fieldsR op n s name src
theorem headR_1 {n : Int} {s name src : ByteArray} {l : Nat} : headR 1 n s name src l = (decide (l = 0) && (decide (0 ≤ n) && noS s && noS name && noS src)) := by
  have ha : arityB 1 = 0 := rfl
  have hf : fieldsR 1 n s name src = (decide (0 ≤ n) && noS s && noS name && noS src) := rfl
  rw [headR, ha, hf]
  congr 1
  rw [decide_eq_decide]; omega
theorem headR_2 {n : Int} {s name src : ByteArray} {l : Nat} : headR 2 n s name src l = (decide (l = 0) && (decide (s.size ≤ 200) && decide (n = 0) && noS name && noS src)) := by
  have ha : arityB 2 = 0 := rfl
  have hf : fieldsR 2 n s name src = (decide (s.size ≤ 200) && decide (n = 0) && noS name && noS src) := rfl
  rw [headR, ha, hf]
  congr 1
  rw [decide_eq_decide]; omega
theorem headR_3 {n : Int} {s name src : ByteArray} {l : Nat} : headR 3 n s name src l = (decide (l = 0) && ((decide (n = 0) || decide (n = 1)) && noS s && noS name && noS src)) := by
  have ha : arityB 3 = 0 := rfl
  have hf : fieldsR 3 n s name src = ((decide (n = 0) || decide (n = 1)) && noS s && noS name && noS src) := rfl
  rw [headR, ha, hf]
  congr 1
  rw [decide_eq_decide]; omega
theorem headR_4 {n : Int} {s name src : ByteArray} {l : Nat} : headR 4 n s name src l = (decide (l = 0) && (freeB name && decide (n = 0) && noS s && noS src)) := by
  have ha : arityB 4 = 0 := rfl
  have hf : fieldsR 4 n s name src = (freeB name && decide (n = 0) && noS s && noS src) := rfl
  rw [headR, ha, hf]
  congr 1
  rw [decide_eq_decide]; omega
theorem headR_5 {n : Int} {s name src : ByteArray} {l : Nat} : headR 5 n s name src l = (decide (l = 0) && (freeB name && freeB s && decide (n = 0) && noS src)) := by
  have ha : arityB 5 = 0 := rfl
  have hf : fieldsR 5 n s name src = (freeB name && freeB s && decide (n = 0) && noS src) := rfl
  rw [headR, ha, hf]
  congr 1
  rw [decide_eq_decide]; omega
theorem headR_21 {n : Int} {s name src : ByteArray} {l : Nat} : headR 21 n s name src l = (decide (l = 1) && (freeB name && freeB src && decide (n = 0) && noS s)) := by
  have ha : arityB 21 = 1 := rfl
  have hf : fieldsR 21 n s name src = (freeB name && freeB src && decide (n = 0) && noS s) := rfl
  rw [headR, ha, hf]
  congr 1
  rw [decide_eq_decide]; omega
theorem headR_r {n : Int} {s name src : ByteArray} {l : Nat} (op : Int) (h : 22 ≤ op) (h' : op ≤ 24) : headR op n s name src l = (decide (l = 2) && (freeB name && freeB src && decide (n = 0) && noS s)) := by
  have ha : arityB op = 2 := by unfold arityB; repeat (first | rw [if_pos (by omega)] | rw [if_neg (by omega)])
  have hf : fieldsR op n s name src = (freeB name && freeB src && decide (n = 0) && noS s) := by
    unfold fieldsR
    have hr : rowsB op = true := by simp [rowsB]; omega
    repeat (rw [if_neg (by omega)])
    rw [if_pos hr]
  rw [headR, ha, hf]
  congr 1
  rw [decide_eq_decide]; omega
theorem headR_t {n : Int} {s name src : ByteArray} {l : Nat} (op : Int) (h : 6 ≤ op) (h' : op ≤ 18) : headR op n s name src l = (decide (l = 2) && (decide (n = 0) && noS s && noS name && noS src)) := by
  have ha : arityB op = 2 := by unfold arityB; repeat (first | rw [if_pos (by omega)] | rw [if_neg (by omega)])
  have hf : fieldsR op n s name src = (decide (n = 0) && noS s && noS name && noS src) := by
    unfold fieldsR
    have hr : rowsB op = false := by simp [rowsB]; omega
    repeat (rw [if_neg (by omega)])
    rw [hr]; rfl
  rw [headR, ha, hf]
  congr 1
  rw [decide_eq_decide]; omega
theorem headR_19 {n : Int} {s name src : ByteArray} {l : Nat} : headR 19 n s name src l = (decide (l = 1) && (decide (n = 0) && noS s && noS name && noS src)) := by
  have ha : arityB 19 = 1 := rfl
  have hf : fieldsR 19 n s name src = (decide (n = 0) && noS s && noS name && noS src) := rfl
  rw [headR, ha, hf]
  congr 1
  rw [decide_eq_decide]; omega
theorem headR_20 {n : Int} {s name src : ByteArray} {l : Nat} : headR 20 n s name src l = (decide (l = 1) && (decide (n = 0) && noS s && noS name && noS src)) := by
  have ha : arityB 20 = 1 := rfl
  have hf : fieldsR 20 n s name src = (decide (n = 0) && noS s && noS name && noS src) := rfl
  rw [headR, ha, hf]
  congr 1
  rw [decide_eq_decide]; omega

theorem set_other {w : World} {g i : Nat} {u : Value} {p : Addr} (h : p.block ≠ g) : (w.setCell ⟨g, i, none⟩ u).cell? p = w.cell? p := World.cell?_of_block (Below.heap_setCell _ _ _ _ h)

def RBuilts (F : Nat → Prop) (d : Nat) : Prop := ∀ (e : Ex) (row : List Value) (w : World), ExAt F d w row e →
  Calls Tryd.prog 8 #[.agg row.toArray] w fun x w' => x = .returned (.bool (builtE d e)) ∧ Below w.heap.size w w'
end Go.Proofs.YthiimingnmbgmaaDoor
