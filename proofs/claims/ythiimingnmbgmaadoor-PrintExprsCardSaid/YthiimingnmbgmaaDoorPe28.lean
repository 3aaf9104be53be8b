/- Parts of this proof, one behind the other: PrtC, PrtD. -/
import Derived.Test.YthiimingnmbgmaaDoorPe27
import Derived.Defers
import Derived.Outline
import Derived.Test.YthiimingnmbgmaaDoorShelfR
import Derived.Lib.Replace
import Derived.Deep.Cut
namespace Go.Proofs.YthiimingnmbgmaaDoor
open Go.RowKit Go.Afx

/-- texts, one behind the other -/
def catL (xs : List ByteArray) : List UInt8 := (xs.map (·.data.toList)).flatten
theorem catL_take {xs : List ByteArray} {k : Nat} {s : ByteArray} (h : xs[k]? = some s) : catL (xs.take (k + 1)) = catL (xs.take k) ++ s.data.toList := by
  obtain ⟨hk, rfl⟩ := List.getElem?_eq_some_iff.1 h
  unfold catL
  rw [List.take_succ_eq_append_getElem hk, List.map_append, List.flatten_append]
  rw [List.map_cons, List.map_nil, List.flatten_cons, List.flatten_nil, List.append_nil]
theorem catL_le (xs : List ByteArray) (k : Nat) : (catL (xs.take k)).length ≤ (catL xs).length := by
  unfold catL
  conv => rhs; rw [← List.take_append_drop k xs, List.map_append, List.flatten_append, List.length_append]
  exact Nat.le_add_right _ _
set_option maxHeartbeats 1000000 in
theorem put_any (g b n : Nat) (t : List UInt8) (br : Bool) (xs : List ByteArray) (w : World) (h : WtAt g t br w) (hb : IsBlk w b 9 (xs.map Value.string).toArray) (hn : xs.length = n) (hn2 : n ≤ 1000) (hlen : t.length + (catL xs).length ≤ 1000000000) :
    Calls Tryd.prog 30 #[.pointer (some ⟨g, 0, none⟩), .slice (some ⟨b, 0, none⟩) n n] w fun e w' => e = .returned (.tuple #[]) ∧ WtAt g (t ++ catL xs) br w' ∧ Wrote g w w' := by
  have H := Lib.hid h
  have Hb := Lib.hid hb
  have Hn := Lib.hid hn
  clear h hb hn
  go_enter Tryd.func30, Tryd.ntmps30
  go_wp2
  go_loopw [8] (fun i wr => ∃ k : Nat, k ≤ n ∧ i = .int .i64 k ∧ WtAt g (t ++ catL (xs.take k)) br wr ∧ Wrote g w wr) (fun i _ => n - (intOf i).toNat)
  case atStart => exact ⟨0, Nat.zero_le _, rfl, by simpa [catL] using H.out, Wrote.refl _ _⟩
  case round =>
    obtain ⟨k, hk, rfl, hw, hr⟩ := hrel
    have hbr : IsBlk wr b 9 (xs.map Value.string).toArray := hr.2.2 b _ _ (by decide) (by decide) Hb.out
    by_cases hlt : k < n
    · have hkx : k < xs.length := by rw [Hn.out]; exact hlt
      have hs : xs[k]? = some (xs[k]'hkx) := List.getElem?_eq_getElem _
      have hc : wr.cell? ⟨b, k, none⟩ = some (.string (xs[k]'hkx)) := by
        rw [hbr.cell, List.getElem?_toArray, List.getElem?_map, hs]; rfl
      have hbl := hbr.lt
      have hle := catL_le xs (k + 1)
      rw [catL_take hs, List.length_append] at hle
      have hgl := hw.lt
      have Hc := Lib.hid (writeString_any g (t ++ catL (xs.take k)) br (xs[k]'hkx) wr hw (by
        rw [List.length_append]
        have e : (xs[k]'hkx).data.toList.length = (xs[k]'hkx).size := rfl
        omega))
      rw [List.append_assoc, ← catL_take hs] at Hc
      have Hr := Lib.hid hr
      generalize xs[k]'hkx = s at *
      clear hbr hw hr hs hle
      go_wp2_with (go_at_call 47; refine Hc.out.mono ?_; rintro e w2 ⟨rfl, hw2, hr2⟩)
      have Hw2 := Lib.hid (And.intro hw2 hr2)
      clear hw2 hr2
      go_roundw
      case rel => exact ⟨k + 1, by omega, by go_num, Hw2.out.1, Hr.out.trans Hw2.out.2⟩
      case measure => simp [intOf]; omega
    · have Hw := Lib.hid (And.intro hw hr)
      clear hw hr hbr
      go_wp2
      go_end0
      have h1 := Hw.out.1
      rw [List.take_of_length_le (by rw [Hn.out]; omega)] at h1
      exact ⟨rfl, h1, Hw.out.2⟩
set_option maxHeartbeats 1000000 in
theorem put_d (u : FrameMode) (g b n : Nat) (t : List UInt8) (br : Bool) (xs : List ByteArray) (w : World) (h : WtAt g t br w) (hb : IsBlk w b 9 (xs.map Value.string).toArray) (hn : xs.length = n) (hn2 : n ≤ 1000) (hlen : t.length + (catL xs).length ≤ 1000000000) :
    CallsD Tryd.prog 30 #[.pointer (some ⟨g, 0, none⟩), .slice (some ⟨b, 0, none⟩) n n] u w fun e u' w' => u' = u ∧ (e = .returned (.tuple #[]) ∧ WtAt g (t ++ catL xs) br w' ∧ Wrote g w w') := by
  have H := Lib.hid h
  have Hb := Lib.hid hb
  have Hn := Lib.hid hn
  clear h hb hn
  go_enter_d Tryd.func30, Tryd.ntmps30
  go_wp2
  go_loopw [8] (fun i wr => ∃ k : Nat, k ≤ n ∧ i = .int .i64 k ∧ WtAt g (t ++ catL (xs.take k)) br wr ∧ Wrote g w wr) (fun i _ => n - (intOf i).toNat)
  case atStart => exact ⟨0, Nat.zero_le _, rfl, by simpa [catL] using H.out, Wrote.refl _ _⟩
  case round =>
    obtain ⟨k, hk, rfl, hw, hr⟩ := hrel
    have hbr : IsBlk wr b 9 (xs.map Value.string).toArray := hr.2.2 b _ _ (by decide) (by decide) Hb.out
    by_cases hlt : k < n
    · have hkx : k < xs.length := by rw [Hn.out]; exact hlt
      have hs : xs[k]? = some (xs[k]'hkx) := List.getElem?_eq_getElem _
      have hc : wr.cell? ⟨b, k, none⟩ = some (.string (xs[k]'hkx)) := by
        rw [hbr.cell, List.getElem?_toArray, List.getElem?_map, hs]; rfl
      have hbl := hbr.lt
      have hle := catL_le xs (k + 1)
      rw [catL_take hs, List.length_append] at hle
      have hgl := hw.lt
      have Hc := Lib.hid (writeString_any g (t ++ catL (xs.take k)) br (xs[k]'hkx) wr hw (by
        rw [List.length_append]
        have e : (xs[k]'hkx).data.toList.length = (xs[k]'hkx).size := rfl
        omega))
      rw [List.append_assoc, ← catL_take hs] at Hc
      have Hr := Lib.hid hr
      generalize xs[k]'hkx = s at *
      clear hbr hw hr hs hle
      go_wp2_with (go_at_call 47; refine Hc.out.mono ?_; rintro e w2 ⟨rfl, hw2, hr2⟩)
      have Hw2 := Lib.hid (And.intro hw2 hr2)
      clear hw2 hr2
      go_roundw
      case rel => exact ⟨k + 1, by omega, by go_num, Hw2.out.1, Hr.out.trans Hw2.out.2⟩
      case measure => simp [intOf]; omega
    · have Hw := Lib.hid (And.intro hw hr)
      clear hw hr hbr
      go_wp2
      go_end0
      have h1 := Hw.out.1
      rw [List.take_of_length_le (by rw [Hn.out]; omega)] at h1
      exact ⟨rfl, h1, Hw.out.2⟩
end Go.Proofs.YthiimingnmbgmaaDoor

namespace Go.Proofs.YthiimingnmbgmaaDoor
open Go.RowKit Go.Afx

theorem dbl_skip {b : UInt8} (h : (b == 39) = false) (l : List UInt8) : dbl (b :: l) = b :: dbl l := by
  unfold dbl
  rw [List.flatMap_cons, if_neg (by simpa using h)]
  rfl
theorem dbl_hit {l : List UInt8} : dbl (39 :: l) = 39 :: 39 :: dbl l := by
  unfold dbl
  rw [List.flatMap_cons, if_pos rfl]
  rfl
theorem dbl_none {l : List UInt8} (h : Lib.indexByte l 39 = -1) : dbl l = l := by
  induction l with
  | nil => rfl
  | cons b l ih =>
    unfold Lib.indexByte at h
    cases hb : b == 39
    · rw [hb] at h
      simp only [Bool.false_eq_true, if_false] at h
      rw [dbl_skip hb, ih (by
        have := Lib.indexByte_ge l 39
        split at h
        · rename_i h2; simpa using h2
        · omega)]
    · rw [hb] at h; simp at h
theorem dbl_at {l : List UInt8} : ∀ {i : Nat}, Lib.indexByte l 39 = i → dbl l = l.take i ++ [39, 39] ++ dbl (l.drop (i + 1)) := by
  induction l with
  | nil => intro i h; simp [Lib.indexByte] at h
  | cons b l ih =>
    intro i h
    unfold Lib.indexByte at h
    cases hb : b == 39
    · rw [hb] at h
      simp only [Bool.false_eq_true, if_false] at h
      have := Lib.indexByte_ge l 39
      split at h
      · omega
      · rename_i h2
        have h2 : Lib.indexByte l 39 ≠ -1 := by simpa using h2
        have hi : 1 ≤ i := by omega
        have hj : Lib.indexByte l 39 = ((i - 1 : Nat) : Int) := by omega
        have h3 := ih hj
        obtain ⟨j, rfl⟩ : ∃ j, i = j + 1 := ⟨i - 1, by omega⟩
        rw [Nat.add_sub_cancel] at h3
        rw [dbl_skip hb, h3]
        rfl
    · rw [hb] at h
      simp only [if_true] at h
      obtain rfl : i = 0 := by omega
      have : b = 39 := by simpa using hb
      subst this
      exact dbl_hit
theorem none_count {c : UInt8} : ∀ {l : List UInt8}, l.count c = 0 → Lib.indexByte l c = -1 := by
  intro l
  induction l with
  | nil => intro _; rfl
  | cons b l ih =>
    intro h
    rw [List.count_cons] at h
    unfold Lib.indexByte
    cases hb : b == c
    · rw [hb] at h
      simp only [Bool.false_eq_true, if_false, Nat.add_zero] at h ⊢
      rw [ih h]
      rfl
    · rw [hb] at h; simp at h
theorem replace_dbl : ∀ (k : Nat) (l : List UInt8), Lib.count l [39] = k → Lib.replaceK [39] [39, 39] k l = dbl l := by
  intro k
  induction k with
  | zero =>
    intro l h
    rw [Lib.count_one] at h
    rw [dbl_none (none_count h)]
    rfl
  | succ k ih =>
    intro l h
    obtain ⟨i, hi⟩ := Lib.index_of_count (s := l) (old := [39]) (by omega)
    have h1 := Lib.count_hit (by simp) hi
    rw [Lib.replaceK_hit _ _ _ _ i hi, ih _ (by omega)]
    rw [Lib.index_one] at hi
    exact (dbl_at hi).symm
theorem replaceAll_dbl (l : List UInt8) : Lib.replaceAll l [39] [39, 39] = dbl l := by
  unfold Lib.replaceAll Lib.replace
  rw [if_neg (by decide)]
  refine replace_dbl _ l ?_
  unfold Lib.replaceNum
  rw [if_pos (by left; decide)]

/-- the library's limit holds some number -/
def HasMax (w : World) : Prop := ∃ m : Int, w.cell? ⟨0, 0, none⟩ = some (.int .i64 m)
theorem HasMax.below {w w' : World} {g : Nat} (h : HasMax w) (hg : 0 < g) (hb : Below g w w') : HasMax w' := by
  obtain ⟨m, hm⟩ := h
  exact ⟨m, (hb.cell (p := ⟨0, 0, none⟩) hg).trans hm⟩
theorem HasMax.lt {w : World} (h : HasMax w) : 0 < w.heap.size := by
  obtain ⟨m, hm⟩ := h
  exact World.block_lt_of_cell? w _ hm

theorem text_any (s : ByteArray) (w : World) : Calls Tryd.prog 34 #[.string s] w fun e w' => e = .returned (.agg #[.int .i64 2, .int .i64 0, .string s]) ∧ Below w.heap.size w w' := by
  go_enter Tryd.func34, Tryd.ntmps34
  go_wp2
  refine bodyPost_ret (v := .agg #[.int .i64 2, .int .i64 0, .string s]) (by simp [results, Tryd.results34, go_sem]) rfl ⟨rfl, ?_⟩
  exact (Below.refl _ _).alloc (Nat.le_refl _) _
theorem bool_any (b : Bool) (w : World) : Calls Tryd.prog 35 #[.bool b] w fun e w' => e = .returned (.agg #[.int .i64 3, .int .i64 (if b then 1 else 0), .string ⟨#[]⟩]) ∧ Below w.heap.size w w' := by
  cases b
  all_goals
    go_enter Tryd.func35, Tryd.ntmps35
    go_wp2
  · refine bodyPost_ret (v := .agg #[.int .i64 3, .int .i64 0, .string ⟨#[]⟩]) (by simp [results, Tryd.results35, go_sem]) rfl ⟨rfl, ?_⟩
    exact ((Below.refl _ _).alloc (Nat.le_refl _) _).alloc (by simp) _
  · refine bodyPost_ret (v := .agg #[.int .i64 3, .int .i64 1, .string ⟨#[]⟩]) (by simp [results, Tryd.results35, go_sem]) rfl ⟨rfl, ?_⟩
    exact ((Below.refl _ _).alloc (Nat.le_refl _) _).alloc (by simp) _

theorem ret_str {a b : ByteArray} (h : a.data = b.data) : Ending.returned (.string a) = .returned (.string b) := by cases a; cases b; simp only at h; rw [h]
theorem valBox {w : World} {g : Nat} {T : TypeId} {v0 v1 v2 : Value} (h : IsBlk w g T #[v0, v1, v2]) : w.cell? ⟨g, 0, none⟩ = some v0 ∧ w.cell? ⟨g, 1, none⟩ = some v1 ∧ w.cell? ⟨g, 2, none⟩ = some v2 ∧ g < w.heap.size := by
  obtain ⟨h0, h1, h2, h3, _⟩ := wtBox h
  exact ⟨h0, h1, h2, h3⟩
theorem wrong_text (s : ByteArray) (w : World) (hs : s.size ≤ 200) : Calls Tryd.prog 50 #[.agg #[.int .i64 2, .int .i64 0, .string s]] w fun e w' => e = .returned (.bool false) ∧ Below w.heap.size w w' := by
  have hd : decide ((200 : Int) < (s.size : Int)) = false := by simp; omega
  go_enter Tryd.func50, Tryd.ntmps50
  go_wp2
  go_ret
  exact ⟨rfl, (Below.refl _ _).alloc (Nat.le_refl _) _⟩
theorem wrong_bool (n : Int) (w : World) (hn : n = 0 ∨ n = 1) : Calls Tryd.prog 50 #[.agg #[.int .i64 3, .int .i64 n, .string ⟨#[]⟩]] w fun e w' => e = .returned (.bool false) ∧ Below w.heap.size w w' := by
  rcases hn with rfl | rfl
  all_goals
    go_enter Tryd.func50, Tryd.ntmps50
    go_wp2
    go_ret
    exact ⟨rfl, (Below.refl _ _).alloc (Nat.le_refl _) _⟩
set_option maxHeartbeats 1000000 in
theorem valText_any (s : ByteArray) (w : World) (hs : s.size ≤ 200) (hm : HasMax w) : Calls Tryd.prog 33 #[.agg #[.int .i64 2, .int .i64 0, .string s]] w fun e w' => e = .returned (.string ⟨(quoteS s).toArray⟩) ∧ Below w.heap.size w w' := by
  have hx : IsBlk (w.alloc (.cells #[.int .i64 2, .int .i64 0, .string s] 61)) w.heap.size 61 #[.int .i64 2, .int .i64 0, .string s] := IsBlk.laid _ _ _
  obtain ⟨w1, Hw1⟩ : ∃ w1, Hid (w1 = w.alloc (.cells #[.int .i64 2, .int .i64 0, .string s] 61)) := ⟨_, rfl⟩
  rw [← Hw1.out] at hx
  have hb1 : Below w.heap.size w w1 := by rw [Hw1.out]; exact (Below.refl _ _).alloc (Nat.le_refl _) _
  have Hx := Lib.hid (fun W (hW : Below w1.heap.size w1 W) => valBox (hx.as_was (hW.block _ hx.lt)))
  have Hwr := Lib.hid (wrong_text s w1 hs)
  have Hre := Lib.hid (fun W (hW : Below w1.heap.size w1 W) => (show Calls Tryd.prog 51 #[.string s, .string ⟨#[39]⟩, .string ⟨#[39, 39]⟩] W fun e w' => e = .returned (.string ⟨(dbl s.data.toList).toArray⟩) ∧ Below W.heap.size W w' from by
    obtain ⟨m, hm2⟩ := (hm.below hm.lt hb1).below (hm.below hm.lt hb1).lt hW
    have h := Tryd.strings_ReplaceAll s ⟨#[39]⟩ ⟨#[39, 39]⟩ m W (by omega) hm2 (by decide) (by
      have h1 : Lib.countB s ⟨#[39]⟩ ≤ s.data.toList.length + 1 := Lib.count_le _ _
      have h2 : s.data.toList.length = s.size := rfl
      have h3 : (⟨#[39, 39]⟩ : ByteArray).size = 2 := rfl
      rw [h3]
      omega)
    have e : Lib.replaceAll s.data.toList (⟨#[39]⟩ : ByteArray).data.toList (⟨#[39, 39]⟩ : ByteArray).data.toList = dbl s.data.toList := replaceAll_dbl _
    rw [e] at h
    exact h))
  have Hb1 := Lib.hid hb1
  have hR : Below w1.heap.size w1 w1 := Below.refl _ _
  obtain ⟨x0, x1, x2, xl⟩ := Hx.out _ hR
  have hq : (dbl s.data.toList).length ≤ 400 := by
    have h1 := dbl_len s.data.toList
    have h2 : s.data.toList.length = s.size := rfl
    omega
  clear hx hb1 hm
  go_enter Tryd.func33, Tryd.ntmps33
  go_upto_region 1 with (fail)
  rw [← Hw1.out]
  go_wp2_with (first
    | (go_at_call 50; refine Hwr.out.mono ?_; rintro e w2 ⟨rfl, hb2⟩; replace hR := hR.trans (hb2.mono hR.size); obtain ⟨x0, x1, x2, xl⟩ := Hx.out _ hR)
    | (go_at_call 51; refine (Hre.out _ hR).mono ?_; rintro e w3 ⟨rfl, hb3⟩))
  go_ret
  refine ⟨ret_str ?_, Hb1.out.trans ((hR.trans (hb3.mono hR.size)).mono Hb1.out.size)⟩
  simp [ByteArray.data_append, quoteS]
theorem valBool_any (b : Bool) (w : World) : Calls Tryd.prog 33 #[.agg #[.int .i64 3, .int .i64 (if b then 1 else 0), .string ⟨#[]⟩]] w fun e w' => e = .returned (.string ⟨(if b then trueL else falseL).toArray⟩) ∧ Below w.heap.size w w' := by
  obtain ⟨n, Hn, hn⟩ : ∃ n : Int, Hid ((if b then 1 else 0 : Int) = n) ∧ (n = 0 ∨ n = 1) := ⟨_, Lib.hid rfl, by cases b <;> simp⟩
  rw [Hn.out]
  have hx : IsBlk (w.alloc (.cells #[.int .i64 3, .int .i64 n, .string ⟨#[]⟩] 61)) w.heap.size 61 #[.int .i64 3, .int .i64 n, .string ⟨#[]⟩] := IsBlk.laid _ _ _
  obtain ⟨w1, Hw1⟩ : ∃ w1, Hid (w1 = w.alloc (.cells #[.int .i64 3, .int .i64 n, .string ⟨#[]⟩] 61)) := ⟨_, rfl⟩
  rw [← Hw1.out] at hx
  have hb1 : Below w.heap.size w w1 := by rw [Hw1.out]; exact (Below.refl _ _).alloc (Nat.le_refl _) _
  have Hx := Lib.hid (fun W (hW : Below w1.heap.size w1 W) => valBox (hx.as_was (hW.block _ hx.lt)))
  have Hwr := Lib.hid (wrong_bool n w1 hn)
  have Hb1 := Lib.hid hb1
  have hR : Below w1.heap.size w1 w1 := Below.refl _ _
  obtain ⟨x0, x1, x2, xl⟩ := Hx.out _ hR
  clear hx hb1 hn
  cases b
  · obtain rfl : n = 0 := Hn.out.symm
    go_enter Tryd.func33, Tryd.ntmps33
    go_upto_region 1 with (fail)
    rw [← Hw1.out]
    go_wp2_with (go_at_call 50; refine Hwr.out.mono ?_; rintro e w2 ⟨rfl, hb2⟩; replace hR := hR.trans (hb2.mono hR.size); obtain ⟨x0, x1, x2, xl⟩ := Hx.out _ hR)
    go_ret
    exact ⟨rfl, Hb1.out.trans (hR.mono Hb1.out.size)⟩
  · obtain rfl : n = 1 := Hn.out.symm
    go_enter Tryd.func33, Tryd.ntmps33
    go_upto_region 1 with (fail)
    rw [← Hw1.out]
    go_wp2_with (go_at_call 50; refine Hwr.out.mono ?_; rintro e w2 ⟨rfl, hb2⟩; replace hR := hR.trans (hb2.mono hR.size); obtain ⟨x0, x1, x2, xl⟩ := Hx.out _ hR)
    go_ret
    exact ⟨rfl, Hb1.out.trans (hR.mono Hb1.out.size)⟩
end Go.Proofs.YthiimingnmbgmaaDoor
