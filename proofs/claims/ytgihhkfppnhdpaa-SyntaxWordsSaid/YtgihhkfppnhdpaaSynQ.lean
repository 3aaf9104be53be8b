/- Syntax, part Q: plain words: what stands once, told by a sort. No program is named. -/
import Derived.Test.YtgihhkfppnhdpaaSynP
import Derived.Lib.RowBridge
import Derived.Sort.KeysCollected
namespace Go.Afx
open Go.RowKit Go.Proofs

theorem sort_rises (l : List (List UInt8)) : (l.mergeSort fun x y => decide (x ≤ y)).Pairwise (fun x y => x ≤ y) := by
  have tr : ∀ a b c : List UInt8, decide (a ≤ b) = true → decide (b ≤ c) = true → decide (a ≤ c) = true := fun a b c h1 h2 => by simp only [decide_eq_true_eq] at *; exact List.le_trans h1 h2
  have to : ∀ a b : List UInt8, (decide (a ≤ b) || decide (b ≤ a)) = true := fun a b => by simp only [Bool.or_eq_true, decide_eq_true_eq]; exact List.le_total a b
  exact (List.pairwise_mergeSort tr to l).imp fun h => by simpa using h

theorem compact_once {ss : List (List UInt8)} (hs : ss.Pairwise (fun x y => x ≤ y)) : (Lib.compact ss).length = ss.length ↔ ss.Nodup := by
  have e : (Lib.compact ss).length = ss.length ↔ ∀ j, j < ss.length → Lib.keeps ss.toArray j = true := by
    unfold Lib.compact Lib.compactUpTo
    rw [List.length_map]
    have h1 := List.length_filter_eq_length_iff (p := Lib.keeps ss.toArray) (l := List.range ss.length)
    rw [List.length_range] at h1
    rw [h1]
    simp
  rw [e]
  have g : ∀ j, j < ss.length → ss.toArray[j]! = ss[j]! := fun j hj => by simp [getElem!_pos, hj]
  constructor
  · intro h
    refine List.pairwise_iff_getElem.2 fun i j hi hj hij he => ?_
    have h1 := h j hj
    simp only [Lib.keeps, decide_eq_true_eq] at h1
    rw [g j hj, g (j - 1) (by omega), getElem!_pos ss j hj, getElem!_pos ss (j - 1) (show j - 1 < ss.length by omega)] at h1
    have h3 : ss[j - 1] ≤ ss[j] := List.pairwise_iff_getElem.1 hs (j - 1) j (by omega) hj (by omega)
    have h2 : ss[i] ≤ ss[j - 1] := by
      by_cases hi' : i = j - 1
      · subst hi'; exact List.le_refl _
      · exact List.pairwise_iff_getElem.1 hs i (j - 1) hi (by omega) (by omega)
    rw [he] at h2
    rcases h1 with h1 | h1
    · omega
    · exact h1 (List.le_antisymm h2 h3)
  · intro h j hj
    simp only [Lib.keeps, decide_eq_true_eq]
    by_cases h0 : j = 0
    · exact .inl h0
    · refine .inr fun he => ?_
      rw [g j hj, g (j - 1) (by omega), getElem!_pos ss j hj, getElem!_pos ss (j - 1) (show j - 1 < ss.length by omega)] at he
      exact List.pairwise_iff_getElem.1 h (j - 1) j (by omega) hj (by omega) he.symm

def bytesL (xs : List ByteArray) : List (List UInt8) := xs.map (·.data.toList)
theorem bytesL_length (xs : List ByteArray) : (bytesL xs).length = xs.length := by simp [bytesL]
theorem data_inj {a b : ByteArray} (h : a.data.toList = b.data.toList) : a = b := by
  cases a; cases b; simp at h; subst h; rfl
theorem bytesL_enc (xs : List ByteArray) : (bytesL xs).map encStr = xs.map Value.string := by simp [bytesL, encStr]
theorem bytesL_nodup (xs : List ByteArray) : (bytesL xs).Nodup ↔ xs.Nodup := by
  unfold bytesL List.Nodup
  rw [List.pairwise_map]
  exact ⟨fun h => h.imp fun h e => h (by rw [e]), fun h => h.imp fun h e => h (data_inj e)⟩
theorem once_sorted (xs : List ByteArray) : (Lib.compact ((bytesL xs).mergeSort fun x y => decide (x ≤ y))).length = xs.length ↔ xs.Nodup := by
  rw [← bytesL_nodup, ← (List.mergeSort_perm (bytesL xs) fun x y => decide (x ≤ y)).nodup_iff, ← compact_once (sort_rises _), List.length_mergeSort, bytesL_length]
end Go.Afx
