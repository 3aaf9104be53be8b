/- Parts of this proof, one behind the other: SynZ, SynZ1, RefP. -/
import Derived.Test.YthiimingnmbgmaaDoorPe11
import Derived.Deep.Cut
import Derived.Deep.CutRange
import Derived.Deep.RegionLaw
import Derived.LoopIn
import Derived.OwnWalkIn
import Derived.TacticsInMore
import Derived.Shelf.RegionOpen
import Derived.Shelf.Abstract
import Derived.Maps.OwnSet
import Derived.Sort.OwnSorted
import Derived.RangeFuncNested
import Derived.RangeFuncBox
import Derived.Shelf.SortM.Plain
import Derived.Shelf.SortM.SortNone
import Derived.Shelf.SlicesG.CompactS
import Derived.Shelf.SlIter.Nil
import Derived.Ground.SlgmProg
import Derived.Test.YthiimingnmbgmaaDoorPe8
namespace Go.Proofs.YthiimingnmbgmaaDoor
open Go.RowKit Go.Afx

theorem resB_no {s : ByteArray} (h : ∀ y ∈ wordsL, (y.toList == s.toList) = false) : resB s = false := by
  unfold resB
  rw [List.any_eq_false]
  exact fun y hy => by simp [h y hy]
theorem resB_yes {s y : ByteArray} (h : y ∈ wordsL) (hy : (y.toList == s.toList) = true) : resB s = true := by
  unfold resB
  rw [List.any_eq_true]
  exact ⟨y, h, hy⟩
theorem words_ok : ∀ y ∈ wordsL, okS y := by unfold okS; decide +kernel

set_option maxRecDepth 100000 in
set_option maxHeartbeats 1000000 in
theorem resRef_any (s : ByteArray) (w : World) : Calls Tryd.prog 39 #[.string s] w fun x w' => x = .returned (.bool (resB s)) ∧ Below w.heap.size w w' := by
  obtain ⟨w1, Hw1⟩ : ∃ w1, Hid (w1 = w.alloc (.cells (wordsL.map fun s => Value.string s).toArray 9)) := ⟨_, rfl⟩
  have hb1 : Below w.heap.size w w1 := by rw [Hw1.out]; exact (Below.refl _ _).alloc (Nat.le_refl _) _
  have hl : LsAt (fun _ => True) w1 1 SRow (some ⟨w.heap.size, 0, none⟩) 43 43 wordsL := by
    rw [Hw1.out]
    refine ⟨wordsL.map fun s => [.string s], RowsAt.lit _ _ 43 rfl (by simp) rfl (by unfold maxLen; omega), fun _ _ _ => trivial, rfl, fun k r x hr hx => ?_⟩
    rw [List.getElem?_map, hx] at hr
    simp at hr
    subst hr
    exact ⟨rfl, rfl, words_ok x (List.mem_of_getElem? hx)⟩
  have Hw2 : Hid (w1 = w.alloc (.cells (wordsL.map fun s => Value.string s).toArray 9)) := Hw1
  simp only [wordsL, str, List.map_cons, List.map_nil] at Hw1
  have Hl := Lib.hid hl
  clear hl
  go_enter Tryd.func39, Tryd.ntmps39
  go_wp2
  rw [← Hw1.out]
  go_loop [4] (fun i => ∃ k : Nat, k ≤ 43 ∧ i = .int .i64 k ∧ ∀ y ∈ wordsL.take k, (y.toList == s.toList) = false) (fun i => 43 - (intOf i).toNat)
  case atStart => exact ⟨0, Nat.zero_le _, rfl, by simp⟩
  case round =>
    obtain ⟨k, hk, rfl, hno⟩ := hrel
    have Hno := Lib.hid hno; clear hno
    by_cases hlt : k < 43
    · obtain ⟨b, o, x, hA, hbl, hx, hs, hc0⟩ := strAt Hl.out hlt
      cases hA
      have Hx := Lib.hid hx; clear hx
      simp only [Nat.zero_add] at hc0
      by_cases he : (x.toList == s.toList) = true
      · have Hf := Lib.hid (resB_yes (List.mem_of_getElem? Hx.out) he)
        go_wp2
        go_ret
        exact ⟨by rw [Hf.out]; rfl, hb1⟩
      · have he : (x.toList == s.toList) = false := by simpa using he
        have Hne := Lib.hid (mem_take_succ Hx.out Hno.out he)
        go_wp2
        go_round
        case rel => exact ⟨k + 1, by omega, by go_num, Hne.out⟩
        case measure => simp [intOf]; omega
    · go_wp2
      go_ret
      have h1 := Hno.out
      rw [List.take_of_length_le (by simp only [wordsL, List.length_cons, List.length_nil]; omega)] at h1
      exact ⟨ret_bool (resB_no h1).symm, hb1⟩

theorem named_eq (s : ByteArray) (h : 0 < s.size) : namedB s = (decide (s.size ≤ 16) && letterB s[0] && s.data.toList.all partB) := by
  obtain ⟨c, r, hs, hc, hl⟩ := list_of s h
  unfold namedB
  rw [hs, hc, ← hl]
  simp only [List.all_cons]
  cases hq : letterB c
  · simp
  · simp [letter_part hq]

set_option maxRecDepth 100000 in
set_option maxHeartbeats 2000000 in
theorem namedRef_any (s : ByteArray) (w : World) (hs : okS s) : Calls Tryd.prog 38 #[.string s] w fun x w' => x = .returned (.bool (namedB s)) ∧ w = w' := by
  unfold okS at hs
  by_cases h0 : s.size = 0
  · have hn : namedB s = false := by
      unfold namedB
      have : s.data.toList = [] := List.eq_nil_of_length_eq_zero (by simpa using h0)
      rw [this]
    have hd : decide ((s.size : Int) < 1) = true := by simp; omega
    have Hn := Lib.hid hn
    clear h0 hn
    go_enter Tryd.func38, Tryd.ntmps38
    go_wp2
    go_ret
    exact ⟨by rw [Hn.out]; rfl, rfl⟩
  · have hpos : 0 < s.size := by omega
    have hd : decide ((s.size : Int) < 1) = false := by simp; omega
    have hn := named_eq s hpos
    clear h0
    by_cases h16 : 16 < s.size
    · have hn2 : namedB s = false := by rw [hn]; simp; omega
      have Hn := Lib.hid hn2
      clear hn hn2
      have hd2 : decide ((16 : Int) < (s.size : Int)) = true := by simp; omega
      go_enter Tryd.func38, Tryd.ntmps38
      go_wp2
      go_ret
      exact ⟨by rw [Hn.out]; rfl, rfl⟩
    · have hd2 : decide ((16 : Int) < (s.size : Int)) = false := by simp; omega
      have hn2 : namedB s = (letterB s[0] && s.data.toList.all partB) := by rw [hn, decide_eq_true (by omega : s.size ≤ 16), Bool.true_and]
      have Hn := Lib.hid hn2
      clear hn hn2
      go_enter Tryd.func38, Tryd.ntmps38
      go_wp2
      clear hd hd2
      go_loop [3] (fun i => ∃ k : Nat, k ≤ s.size ∧ i = .int .i64 k ∧ (k = 0 ∨ letterB s[0] = true) ∧ ∀ y ∈ s.data.toList.take k, partB y = true) (fun i => s.size - (intOf i).toNat)
      case atStart => exact ⟨0, Nat.zero_le _, rfl, .inl rfl, by simp⟩
      case round =>
        obtain ⟨k, hk, rfl, hl0, hall⟩ := hrel
        have Hall := Lib.hid hall
        have Hl0 := Lib.hid hl0
        clear hall hl0
        by_cases hlt : k < s.size
        · have Hy := Lib.hid (show s.data.toList[k]? = some s[k] by rw [List.getElem?_eq_getElem (by simpa using hlt)]; rfl)
          have Hgo := Lib.hid (fun (h1 : partB s[k] = true) (h2 : k = 0 → letterB s[k] = true) => (⟨by
              by_cases hk0 : k = 0
              · subst hk0; exact .inr (h2 rfl)
              · rcases Hl0.out with h | h
                · exact absurd h hk0
                · exact .inr h, mem_take_succ Hy.out Hall.out h1⟩ : (k + 1 = 0 ∨ letterB s[0] = true) ∧ ∀ y ∈ s.data.toList.take (k + 1), partB y = true))
          have Hst := Lib.hid (fun (h : letterB s[k] = false) (hk0 : k = 0) => (show namedB s = false by subst hk0; rw [Hn.out, h]; rfl))
          have Hst2 := Lib.hid (fun (h : partB s[k] = false) => (show namedB s = false by
            have : s.data.toList.all partB = false := by rw [List.all_eq_false]; exact ⟨_, List.mem_of_getElem? Hy.out, by simp [h]⟩
            rw [Hn.out, this]; simp))
          have HL : Hid (letterB s[k] = (decide (97 ≤ s[k].toNat) && decide (s[k].toNat ≤ 122))) := Lib.hid rfl
          have HP : Hid (partB s[k] = ((decide (97 ≤ s[k].toNat) && decide (s[k].toNat ≤ 122)) || (decide (48 ≤ s[k].toNat) && decide (s[k].toNat ≤ 57)) || decide (s[k].toNat = 95))) := Lib.hid rfl
          generalize hc : s[k].toNat = c at HL HP
          by_cases hA : 97 ≤ c
          · by_cases hB : c ≤ 122
            · have dA : (decide ((97 : Int) ≤ (s[k].toNat : Int))) = true := by simp; omega
              have dB : (decide ((s[k].toNat : Int) ≤ (122 : Int))) = true := by simp; omega
              have Hg := Lib.hid (Hgo.out (by rw [HP.out]; simp; omega) (by intro h; rw [HL.out]; simp; omega))
              clear hc
              go_wp2
              go_round
              case rel => exact ⟨k + 1, by omega, by go_num, Hg.out.1, Hg.out.2⟩
              case measure => simp [intOf]; omega
            · by_cases hk0 : k = 0
              · have dA : (decide ((97 : Int) ≤ (s[k].toNat : Int))) = true := by simp; omega
                have dB : (decide ((s[k].toNat : Int) ≤ (122 : Int))) = false := by simp; omega
                have dK : (((k : Int) == 0)) = true := by simp; omega
                have Hg := Lib.hid (Hst.out (by rw [HL.out]; simp; omega) (by omega))
                clear hc hk0
                go_wp2
                go_ret
                exact ⟨ret_bool Hg.out.symm, rfl⟩
              · have dA : (decide ((97 : Int) ≤ (s[k].toNat : Int))) = true := by simp; omega
                have dB : (decide ((s[k].toNat : Int) ≤ (122 : Int))) = false := by simp; omega
                have dC : (decide ((48 : Int) ≤ (s[k].toNat : Int))) = true := by simp; omega
                have dD : (decide ((s[k].toNat : Int) ≤ (57 : Int))) = false := by simp; omega
                have dE : (((s[k].toNat : Int) != 95)) = true := by simp; omega
                have dK : (((k : Int) == 0)) = false := by simp; omega
                have Hg := Lib.hid (Hst2.out (by rw [HP.out]; simp; omega))
                clear hc
                go_wp2
                go_ret
                exact ⟨ret_bool Hg.out.symm, rfl⟩
          · by_cases hk0 : k = 0
            · have dA : (decide ((97 : Int) ≤ (s[k].toNat : Int))) = false := by simp; omega
              have dK : (((k : Int) == 0)) = true := by simp; omega
              have Hg := Lib.hid (Hst.out (by rw [HL.out]; simp; omega) (by omega))
              clear hc hk0
              go_wp2
              go_ret
              exact ⟨ret_bool Hg.out.symm, rfl⟩
            · by_cases hC : 48 ≤ c
              · by_cases hD : c ≤ 57
                · have dA : (decide ((97 : Int) ≤ (s[k].toNat : Int))) = false := by simp; omega
                  have dC : (decide ((48 : Int) ≤ (s[k].toNat : Int))) = true := by simp; omega
                  have dD : (decide ((s[k].toNat : Int) ≤ (57 : Int))) = true := by simp; omega
                  have dK : (((k : Int) == 0)) = false := by simp; omega
                  have Hg := Lib.hid (Hgo.out (by rw [HP.out]; simp; omega) (by intro h; rw [HL.out]; simp; omega))
                  clear hc
                  go_wp2
                  go_round
                  case rel => exact ⟨k + 1, by omega, by go_num, Hg.out.1, Hg.out.2⟩
                  case measure => simp [intOf]; omega
                · by_cases hE : c = 95
                  · have dA : (decide ((97 : Int) ≤ (s[k].toNat : Int))) = false := by simp; omega
                    have dC : (decide ((48 : Int) ≤ (s[k].toNat : Int))) = true := by simp; omega
                    have dD : (decide ((s[k].toNat : Int) ≤ (57 : Int))) = false := by simp; omega
                    have dE : (((s[k].toNat : Int) != 95)) = false := by simp; omega
                    have dK : (((k : Int) == 0)) = false := by simp; omega
                    have Hg := Lib.hid (Hgo.out (by rw [HP.out]; simp; omega) (by intro h; rw [HL.out]; simp; omega))
                    clear hc
                    go_wp2
                    go_round
                    case rel => exact ⟨k + 1, by omega, by go_num, Hg.out.1, Hg.out.2⟩
                    case measure => simp [intOf]; omega
                  · have dA : (decide ((97 : Int) ≤ (s[k].toNat : Int))) = false := by simp; omega
                    have dC : (decide ((48 : Int) ≤ (s[k].toNat : Int))) = true := by simp; omega
                    have dD : (decide ((s[k].toNat : Int) ≤ (57 : Int))) = false := by simp; omega
                    have dE : (((s[k].toNat : Int) != 95)) = true := by simp; omega
                    have dK : (((k : Int) == 0)) = false := by simp; omega
                    have Hg := Lib.hid (Hst2.out (by rw [HP.out]; simp; omega))
                    clear hc
                    go_wp2
                    go_ret
                    exact ⟨ret_bool Hg.out.symm, rfl⟩
              · have dA : (decide ((97 : Int) ≤ (s[k].toNat : Int))) = false := by simp; omega
                have dC : (decide ((48 : Int) ≤ (s[k].toNat : Int))) = false := by simp; omega
                have dE : (((s[k].toNat : Int) != 95)) = true := by simp; omega
                have dK : (((k : Int) == 0)) = false := by simp; omega
                have Hg := Lib.hid (Hst2.out (by rw [HP.out]; simp; omega))
                clear hc
                go_wp2
                go_ret
                exact ⟨ret_bool Hg.out.symm, rfl⟩
        · go_wp2
          go_ret
          have h1 := Hall.out
          rw [List.take_of_length_le (by simp; omega)] at h1
          have h2 : letterB s[0] = true := Hl0.out.resolve_left (by omega)
          exact ⟨ret_bool (by rw [Hn.out, h2, Bool.true_and, eq_comm, List.all_eq_true]; exact h1), rfl⟩

theorem freeRef_any (s : ByteArray) (w : World) (hs : okS s) : Calls Tryd.prog 18 #[.string s] w fun x w' => x = .returned (.bool (freeB s)) ∧ Below w.heap.size w w' := by
  have h1 := namedRef_any s w hs
  have h2 := resRef_any s w
  have hf : freeB s = (namedB s && !resB s) := rfl
  generalize resB s = r at *
  generalize namedB s = q at *
  have Hf := Lib.hid hf
  have H1 := Lib.hid h1
  have H2 := Lib.hid h2
  clear h1 h2 hf
  cases q
  · go_enter Tryd.func18, Tryd.ntmps18
    go_wp2_with (go_at_call 38; refine H1.out.mono ?_; rintro x w1 ⟨rfl, rfl⟩)
    go_ret
    exact ⟨ret_bool (by rw [Hf.out]; rfl), Below.refl _ _⟩
  · go_enter Tryd.func18, Tryd.ntmps18
    go_wp2_with (first | (go_at_call 38; refine H1.out.mono ?_; rintro x w1 ⟨rfl, rfl⟩) | (go_at_call 39; refine H2.out.mono ?_; rintro x w2 ⟨rfl, hb2⟩))
    go_ret
    exact ⟨ret_bool (by rw [Hf.out]; rfl), hb2⟩
end Go.Proofs.YthiimingnmbgmaaDoor

namespace Go.Proofs.YthiimingnmbgmaaDoor
open Go.RowKit Go.Afx

theorem take_succ_of' {α : Type} {l : List α} {k : Nat} {x : α} (h : l[k]? = some x) : l.take (k + 1) = l.take k ++ [x] := by
  obtain ⟨hk, rfl⟩ := List.getElem?_eq_some_iff.1 h
  exact List.take_succ_eq_append_getElem hk
theorem str_empty {s : ByteArray} (h : noS s = true) : s.toList = [] := by rw [noS_nil] at h; simpa using h
theorem str_some {s : ByteArray} (h : noS s = false) : s.toList.isEmpty = false := by rw [noS_nil] at h; exact h
theorem exBox {w : World} {g : Nat} {T : TypeId} {op n : Int} {s name src : ByteArray} {A : Option Addr} {m c : Nat} (h : IsBlk w g T #[.int .i64 op, .int .i64 n, .string s, .string name, .string src, .slice A m c]) :
    w.cell? ⟨g, 0, none⟩ = some (.int .i64 op) ∧ w.cell? ⟨g, 1, none⟩ = some (.int .i64 n) ∧ w.cell? ⟨g, 2, none⟩ = some (.string s) ∧ w.cell? ⟨g, 3, none⟩ = some (.string name) ∧ w.cell? ⟨g, 4, none⟩ = some (.string src) ∧ w.cell? ⟨g, 5, none⟩ = some (.slice A m c) ∧ g < w.heap.size := by
  have h0 := h.cell 0; have h1 := h.cell 1; have h2 := h.cell 2; have h3 := h.cell 3; have h4 := h.cell 4; have h5 := h.cell 5
  simp at h0 h1 h2 h3 h4 h5
  exact ⟨h0, h1, h2, h3, h4, h5, h.lt⟩
end Go.Proofs.YthiimingnmbgmaaDoor

namespace Go.Proofs.YthiimingnmbgmaaDoor
open Go.RowKit Go.Afx

theorem pick_none (k : Int) (w : World) : Calls Tryd.prog 12 #[.int .i64 k, .int .i64 0] w fun x w' => x = .returned (.int .i64 (-1)) ∧ w = w' := by
  go_enter Tryd.func12, Tryd.ntmps12
  go_wp2
  go_ret
  exact ⟨rfl, rfl⟩
theorem pick_zero (k : Int) (n : Nat) (w : World) (hn : n = 0) : Calls Tryd.prog 12 #[.int .i64 k, .int .i64 (n : Int)] w fun x w' => x = .returned (.int .i64 (-1)) ∧ w = w' := by
  subst hn
  exact pick_none k w
theorem u64_nonneg (k : Int) : 0 ≤ IntKind.u64.wrap k := by
  simp only [IntKind.wrap, IntKind.bits, IntKind.signed]
  simp
  omega
/-- the place that is picked, so many from the end -/
def pickN (k : Int) (n : Nat) : Nat := n - 1 - (IntKind.u64.wrap k % (n : Int)).toNat
theorem pickN_lt (k : Int) (n : Nat) (h : 0 < n) : pickN k n < n := by unfold pickN; omega
theorem pick_int (k : Int) (n : Nat) (h0 : 0 < n) (h1 : n ≤ 1000) : wrap64 ((n : Int) - 1 - wrap64 ((IntKind.u64.wrap k).tmod (n : Int))) = (pickN k n : Int) := by
  have hu := u64_nonneg k
  unfold pickN
  generalize IntKind.u64.wrap k = u at *
  rw [Int.tmod_eq_emod_of_nonneg hu]
  have a := Int.emod_nonneg u (b := (n : Int)) (by omega)
  have b := Int.emod_lt_of_pos u (b := (n : Int)) (by omega)
  generalize u % (n : Int) = m at *
  rw [IntWalk.wrap64_in m ⟨by omega, by omega⟩, IntWalk.wrap64_in _ ⟨by omega, by omega⟩]
  omega
theorem pick_some (k : Int) (n : Nat) (w : World) (h0 : 0 < n) (h1 : n ≤ 1000) : Calls Tryd.prog 12 #[.int .i64 k, .int .i64 (n : Int)] w fun x w' => x = .returned (.int .i64 (pickN k n : Int)) ∧ w = w' := by
  have hd : ((n : Int) == 0) = false := by simp; omega
  go_enter Tryd.func12, Tryd.ntmps12
  go_wp2
  go_ret
  exact ⟨ret_int (pick_int k n h0 h1), rfl⟩
theorem told2_any (n d : Int) (w : World) : Calls Tryd.prog 13 #[.int .i64 n, .int .i64 d] w fun x w' => x = .returned (.tuple #[.int .i64 (toldZ (n, d)).1, .int .i64 (toldZ (n, d)).2]) ∧ w = w' := by
  by_cases h1 : 1000 ≤ n
  · have hf : toldZ (n, d) = (1000, 1000) := by simp [toldZ, fullZ, h1]
    have Hf := Lib.hid hf
    have hd : decide ((1000 : Int) ≤ n) = true := by simpa using h1
    clear hf
    go_enter Tryd.func13, Tryd.ntmps13
    go_wp2
    go_ret2
    exact ⟨by rw [Hf.out]; rfl, rfl⟩
  · have hd : decide ((1000 : Int) ≤ n) = false := by simpa using h1
    by_cases h2 : 1000 ≤ d
    · have hf : toldZ (n, d) = (1000, 1000) := by simp [toldZ, fullZ, h2]
      have Hf := Lib.hid hf
      have hd2 : decide ((1000 : Int) ≤ d) = true := by simpa using h2
      clear hf
      go_enter Tryd.func13, Tryd.ntmps13
      go_wp2
      go_ret2
      exact ⟨by rw [Hf.out]; rfl, rfl⟩
    · have hd2 : decide ((1000 : Int) ≤ d) = false := by simpa using h2
      have hf : toldZ (n, d) = (n, d) := by simp [toldZ, fullZ, h1, h2]
      have Hf := Lib.hid hf
      clear hf
      go_enter Tryd.func13, Tryd.ntmps13
      go_wp2
      go_ret2
      exact ⟨by rw [Hf.out]; rfl, rfl⟩

end Go.Proofs.YthiimingnmbgmaaDoor
