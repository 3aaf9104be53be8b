/- Parts of this proof, one behind the other: SynZ, SynZ1, RefA, RefE. -/
import Derived.Test.YtgihhkfppnhdpaaSp10
import Derived.Test.YtgihhkfppnhdpaaSp2
import Derived.Deep.Cut
namespace Go.Proofs.Ytgihhkfppnhdpaa
open Go.RowKit Go.Afx

theorem resB_no {s : ByteArray} (h : ∀ y ∈ wordsL, (y.toList == s.toList) = false) : resB s = false := by
  unfold resB
  rw [List.any_eq_false]
  exact fun y hy => by simp [h y hy]
theorem resB_yes {s y : ByteArray} (h : y ∈ wordsL) (hy : (y.toList == s.toList) = true) : resB s = true := by
  unfold resB
  rw [List.any_eq_true]
  exact ⟨y, h, hy⟩
theorem words_ok : ∀ y ∈ wordsL, okS y := by unfold okS; decide +kernel

set_option maxRecDepth 100000 in
set_option maxHeartbeats 1000000 in
theorem resRef_any (s : ByteArray) (w : World) : Calls Try.prog 8 #[.string s] w fun x w' => x = .returned (.bool (resB s)) ∧ Below w.heap.size w w' := by
  obtain ⟨w1, Hw1⟩ : ∃ w1, Hid (w1 = w.alloc (.cells (wordsL.map fun s => Value.string s).toArray 9)) := ⟨_, rfl⟩
  have hb1 : Below w.heap.size w w1 := by rw [Hw1.out]; exact (Below.refl _ _).alloc (Nat.le_refl _) _
  have hl : LsAt (fun _ => True) w1 1 SRow (some ⟨w.heap.size, 0, none⟩) 43 43 wordsL := by
    rw [Hw1.out]
    refine ⟨wordsL.map fun s => [.string s], RowsAt.lit _ _ 43 rfl (by simp) rfl (by unfold maxLen; omega), fun _ _ _ => trivial, rfl, fun k r x hr hx => ?_⟩
    rw [List.getElem?_map, hx] at hr
    simp at hr
    subst hr
    exact ⟨rfl, rfl, words_ok x (List.mem_of_getElem? hx)⟩
  have Hw2 : Hid (w1 = w.alloc (.cells (wordsL.map fun s => Value.string s).toArray 9)) := Hw1
  simp only [wordsL, str, List.map_cons, List.map_nil] at Hw1
  have Hl := Lib.hid hl
  clear hl
  go_enter Try.func8, Try.ntmps8
  go_wp2
  rw [← Hw1.out]
  go_loop [4] (fun i => ∃ k : Nat, k ≤ 43 ∧ i = .int .i64 k ∧ ∀ y ∈ wordsL.take k, (y.toList == s.toList) = false) (fun i => 43 - (intOf i).toNat)
  case atStart => exact ⟨0, Nat.zero_le _, rfl, by simp⟩
  case round =>
    obtain ⟨k, hk, rfl, hno⟩ := hrel
    have Hno := Lib.hid hno; clear hno
    by_cases hlt : k < 43
    · obtain ⟨b, o, x, hA, hbl, hx, hs, hc0⟩ := strAt Hl.out hlt
      cases hA
      have Hx := Lib.hid hx; clear hx
      simp only [Nat.zero_add] at hc0
      by_cases he : (x.toList == s.toList) = true
      · have Hf := Lib.hid (resB_yes (List.mem_of_getElem? Hx.out) he)
        go_wp2
        go_ret
        exact ⟨by rw [Hf.out]; rfl, hb1⟩
      · have he : (x.toList == s.toList) = false := by simpa using he
        have Hne := Lib.hid (mem_take_succ Hx.out Hno.out he)
        go_wp2
        go_round
        case rel => exact ⟨k + 1, by omega, by go_num, Hne.out⟩
        case measure => simp [intOf]; omega
    · go_wp2
      go_ret
      have h1 := Hno.out
      rw [List.take_of_length_le (by simp only [wordsL, List.length_cons, List.length_nil]; omega)] at h1
      exact ⟨ret_bool (resB_no h1).symm, hb1⟩

theorem named_eq (s : ByteArray) (h : 0 < s.size) : namedB s = (decide (s.size ≤ 16) && letterB s[0] && s.data.toList.all partB) := by
  obtain ⟨c, r, hs, hc, hl⟩ := list_of s h
  unfold namedB
  rw [hs, hc, ← hl]
  simp only [List.all_cons]
  cases hq : letterB c
  · simp
  · simp [letter_part hq]

set_option maxRecDepth 100000 in
set_option maxHeartbeats 2000000 in
theorem namedRef_any (s : ByteArray) (w : World) (hs : okS s) : Calls Try.prog 24 #[.string s] w fun x w' => x = .returned (.bool (namedB s)) ∧ w = w' := by
  unfold okS at hs
  by_cases h0 : s.size = 0
  · have hn : namedB s = false := by
      unfold namedB
      have : s.data.toList = [] := List.eq_nil_of_length_eq_zero (by simpa using h0)
      rw [this]
    have hd : decide ((s.size : Int) < 1) = true := by simp; omega
    have Hn := Lib.hid hn
    clear h0 hn
    go_enter Try.func24, Try.ntmps24
    go_wp2
    go_ret
    exact ⟨by rw [Hn.out]; rfl, rfl⟩
  · have hpos : 0 < s.size := by omega
    have hd : decide ((s.size : Int) < 1) = false := by simp; omega
    have hn := named_eq s hpos
    clear h0
    by_cases h16 : 16 < s.size
    · have hn2 : namedB s = false := by rw [hn]; simp; omega
      have Hn := Lib.hid hn2
      clear hn hn2
      have hd2 : decide ((16 : Int) < (s.size : Int)) = true := by simp; omega
      go_enter Try.func24, Try.ntmps24
      go_wp2
      go_ret
      exact ⟨by rw [Hn.out]; rfl, rfl⟩
    · have hd2 : decide ((16 : Int) < (s.size : Int)) = false := by simp; omega
      have hn2 : namedB s = (letterB s[0] && s.data.toList.all partB) := by rw [hn, decide_eq_true (by omega : s.size ≤ 16), Bool.true_and]
      have Hn := Lib.hid hn2
      clear hn hn2
      go_enter Try.func24, Try.ntmps24
      go_wp2
      clear hd hd2
      go_loop [3] (fun i => ∃ k : Nat, k ≤ s.size ∧ i = .int .i64 k ∧ (k = 0 ∨ letterB s[0] = true) ∧ ∀ y ∈ s.data.toList.take k, partB y = true) (fun i => s.size - (intOf i).toNat)
      case atStart => exact ⟨0, Nat.zero_le _, rfl, .inl rfl, by simp⟩
      case round =>
        obtain ⟨k, hk, rfl, hl0, hall⟩ := hrel
        have Hall := Lib.hid hall
        have Hl0 := Lib.hid hl0
        clear hall hl0
        by_cases hlt : k < s.size
        · have Hy := Lib.hid (show s.data.toList[k]? = some s[k] by rw [List.getElem?_eq_getElem (by simpa using hlt)]; rfl)
          have Hgo := Lib.hid (fun (h1 : partB s[k] = true) (h2 : k = 0 → letterB s[k] = true) => (⟨by
              by_cases hk0 : k = 0
              · subst hk0; exact .inr (h2 rfl)
              · rcases Hl0.out with h | h
                · exact absurd h hk0
                · exact .inr h, mem_take_succ Hy.out Hall.out h1⟩ : (k + 1 = 0 ∨ letterB s[0] = true) ∧ ∀ y ∈ s.data.toList.take (k + 1), partB y = true))
          have Hst := Lib.hid (fun (h : letterB s[k] = false) (hk0 : k = 0) => (show namedB s = false by subst hk0; rw [Hn.out, h]; rfl))
          have Hst2 := Lib.hid (fun (h : partB s[k] = false) => (show namedB s = false by
            have : s.data.toList.all partB = false := by rw [List.all_eq_false]; exact ⟨_, List.mem_of_getElem? Hy.out, by simp [h]⟩
            rw [Hn.out, this]; simp))
          have HL : Hid (letterB s[k] = (decide (97 ≤ s[k].toNat) && decide (s[k].toNat ≤ 122))) := Lib.hid rfl
          have HP : Hid (partB s[k] = ((decide (97 ≤ s[k].toNat) && decide (s[k].toNat ≤ 122)) || (decide (48 ≤ s[k].toNat) && decide (s[k].toNat ≤ 57)) || decide (s[k].toNat = 95))) := Lib.hid rfl
          generalize hc : s[k].toNat = c at HL HP
          by_cases hA : 97 ≤ c
          · by_cases hB : c ≤ 122
            · have dA : (decide ((97 : Int) ≤ (s[k].toNat : Int))) = true := by simp; omega
              have dB : (decide ((s[k].toNat : Int) ≤ (122 : Int))) = true := by simp; omega
              have Hg := Lib.hid (Hgo.out (by rw [HP.out]; simp; omega) (by intro h; rw [HL.out]; simp; omega))
              clear hc
              go_wp2
              go_round
              case rel => exact ⟨k + 1, by omega, by go_num, Hg.out.1, Hg.out.2⟩
              case measure => simp [intOf]; omega
            · by_cases hk0 : k = 0
              · have dA : (decide ((97 : Int) ≤ (s[k].toNat : Int))) = true := by simp; omega
                have dB : (decide ((s[k].toNat : Int) ≤ (122 : Int))) = false := by simp; omega
                have dK : (((k : Int) == 0)) = true := by simp; omega
                have Hg := Lib.hid (Hst.out (by rw [HL.out]; simp; omega) (by omega))
                clear hc hk0
                go_wp2
                go_ret
                exact ⟨ret_bool Hg.out.symm, rfl⟩
              · have dA : (decide ((97 : Int) ≤ (s[k].toNat : Int))) = true := by simp; omega
                have dB : (decide ((s[k].toNat : Int) ≤ (122 : Int))) = false := by simp; omega
                have dC : (decide ((48 : Int) ≤ (s[k].toNat : Int))) = true := by simp; omega
                have dD : (decide ((s[k].toNat : Int) ≤ (57 : Int))) = false := by simp; omega
                have dE : (((s[k].toNat : Int) != 95)) = true := by simp; omega
                have dK : (((k : Int) == 0)) = false := by simp; omega
                have Hg := Lib.hid (Hst2.out (by rw [HP.out]; simp; omega))
                clear hc
                go_wp2
                go_ret
                exact ⟨ret_bool Hg.out.symm, rfl⟩
          · by_cases hk0 : k = 0
            · have dA : (decide ((97 : Int) ≤ (s[k].toNat : Int))) = false := by simp; omega
              have dK : (((k : Int) == 0)) = true := by simp; omega
              have Hg := Lib.hid (Hst.out (by rw [HL.out]; simp; omega) (by omega))
              clear hc hk0
              go_wp2
              go_ret
              exact ⟨ret_bool Hg.out.symm, rfl⟩
            · by_cases hC : 48 ≤ c
              · by_cases hD : c ≤ 57
                · have dA : (decide ((97 : Int) ≤ (s[k].toNat : Int))) = false := by simp; omega
                  have dC : (decide ((48 : Int) ≤ (s[k].toNat : Int))) = true := by simp; omega
                  have dD : (decide ((s[k].toNat : Int) ≤ (57 : Int))) = true := by simp; omega
                  have dK : (((k : Int) == 0)) = false := by simp; omega
                  have Hg := Lib.hid (Hgo.out (by rw [HP.out]; simp; omega) (by intro h; rw [HL.out]; simp; omega))
                  clear hc
                  go_wp2
                  go_round
                  case rel => exact ⟨k + 1, by omega, by go_num, Hg.out.1, Hg.out.2⟩
                  case measure => simp [intOf]; omega
                · by_cases hE : c = 95
                  · have dA : (decide ((97 : Int) ≤ (s[k].toNat : Int))) = false := by simp; omega
                    have dC : (decide ((48 : Int) ≤ (s[k].toNat : Int))) = true := by simp; omega
                    have dD : (decide ((s[k].toNat : Int) ≤ (57 : Int))) = false := by simp; omega
                    have dE : (((s[k].toNat : Int) != 95)) = false := by simp; omega
                    have dK : (((k : Int) == 0)) = false := by simp; omega
                    have Hg := Lib.hid (Hgo.out (by rw [HP.out]; simp; omega) (by intro h; rw [HL.out]; simp; omega))
                    clear hc
                    go_wp2
                    go_round
                    case rel => exact ⟨k + 1, by omega, by go_num, Hg.out.1, Hg.out.2⟩
                    case measure => simp [intOf]; omega
                  · have dA : (decide ((97 : Int) ≤ (s[k].toNat : Int))) = false := by simp; omega
                    have dC : (decide ((48 : Int) ≤ (s[k].toNat : Int))) = true := by simp; omega
                    have dD : (decide ((s[k].toNat : Int) ≤ (57 : Int))) = false := by simp; omega
                    have dE : (((s[k].toNat : Int) != 95)) = true := by simp; omega
                    have dK : (((k : Int) == 0)) = false := by simp; omega
                    have Hg := Lib.hid (Hst2.out (by rw [HP.out]; simp; omega))
                    clear hc
                    go_wp2
                    go_ret
                    exact ⟨ret_bool Hg.out.symm, rfl⟩
              · have dA : (decide ((97 : Int) ≤ (s[k].toNat : Int))) = false := by simp; omega
                have dC : (decide ((48 : Int) ≤ (s[k].toNat : Int))) = false := by simp; omega
                have dE : (((s[k].toNat : Int) != 95)) = true := by simp; omega
                have dK : (((k : Int) == 0)) = false := by simp; omega
                have Hg := Lib.hid (Hst2.out (by rw [HP.out]; simp; omega))
                clear hc
                go_wp2
                go_ret
                exact ⟨ret_bool Hg.out.symm, rfl⟩
        · go_wp2
          go_ret
          have h1 := Hall.out
          rw [List.take_of_length_le (by simp; omega)] at h1
          have h2 : letterB s[0] = true := Hl0.out.resolve_left (by omega)
          exact ⟨ret_bool (by rw [Hn.out, h2, Bool.true_and, eq_comm, List.all_eq_true]; exact h1), rfl⟩

theorem freeRef_any (s : ByteArray) (w : World) (hs : okS s) : Calls Try.prog 10 #[.string s] w fun x w' => x = .returned (.bool (freeB s)) ∧ Below w.heap.size w w' := by
  have h1 := namedRef_any s w hs
  have h2 := resRef_any s w
  have hf : freeB s = (namedB s && !resB s) := rfl
  generalize resB s = r at *
  generalize namedB s = q at *
  have Hf := Lib.hid hf
  have H1 := Lib.hid h1
  have H2 := Lib.hid h2
  clear h1 h2 hf
  cases q
  · go_enter Try.func10, Try.ntmps10
    go_wp2_with (go_at_call 24; refine H1.out.mono ?_; rintro x w1 ⟨rfl, rfl⟩)
    go_ret
    exact ⟨ret_bool (by rw [Hf.out]; rfl), Below.refl _ _⟩
  · go_enter Try.func10, Try.ntmps10
    go_wp2_with (first | (go_at_call 24; refine H1.out.mono ?_; rintro x w1 ⟨rfl, rfl⟩) | (go_at_call 8; refine H2.out.mono ?_; rintro x w2 ⟨rfl, hb2⟩))
    go_ret
    exact ⟨ret_bool (by rw [Hf.out]; rfl), hb2⟩
end Go.Proofs.Ytgihhkfppnhdpaa

namespace Go.Proofs.Ytgihhkfppnhdpaa
open Go.RowKit Go.Afx Go.Maps

/-- the slice reads as these texts -/
def NamesAt (w : World) (A : Option Addr) (n c : Nat) (xs : List ByteArray) : Prop := RowsAt w 1 A n c (xs.map srow)
theorem NamesAt.below {w w' : World} {A : Option Addr} {n c : Nat} {xs : List ByteArray} (h : NamesAt w A n c xs) (hb : Below w.heap.size w w') : NamesAt w' A n c xs := RowsAt.below h hb
theorem NamesAt.len {w : World} {A : Option Addr} {n c : Nat} {xs : List ByteArray} (h : NamesAt w A n c xs) : xs.length = n := by have := RowsAt.len h; simpa using this
theorem NamesAt.at_ {w : World} {A : Option Addr} {n c : Nat} {xs : List ByteArray} (h : NamesAt w A n c xs) {k : Nat} (hk : k < n) : ∃ b o x, A = some ⟨b, o, none⟩ ∧ b < w.heap.size ∧ xs[k]? = some x ∧ w.cell? ⟨b, o + k, none⟩ = some (.string x) := by
  have hl := h.len
  have hx : xs[k]? = some (xs[k]'(by omega)) := List.getElem?_eq_getElem _
  obtain ⟨b, o, hA, hb, hc⟩ := RowsAt.one (u := .string (xs[k]'(by omega))) h (k := k) (by rw [List.getElem?_map, hx]; rfl)
  exact ⟨b, o, _, hA, hb, hx, hc⟩

theorem take_same {xs ys : List ByteArray} {k : Nat} {x y : ByteArray} (hx : xs[k]? = some x) (hy : ys[k]? = some y) (h : xs.take k = ys.take k) (he : x = y) : xs.take (k + 1) = ys.take (k + 1) := by
  rw [take_succ_of' hx, take_succ_of' hy, h, he]

set_option maxHeartbeats 1000000 in
theorem sameRef_any (A A2 : Option Addr) (n c m c2 : Nat) (xs ys : List ByteArray) (w : World) (h1 : NamesAt w A n c xs) (h2 : NamesAt w A2 m c2 ys) :
    Calls Try.prog 14 #[.slice A n c, .slice A2 m c2] w fun x w' => x = .returned (.bool (decide (xs = ys))) ∧ Below w.heap.size w w' := by
  have hn := RowsAt.n_le h1
  have hm := RowsAt.n_le h2
  have Hl1 := Lib.hid h1.len
  have Hl2 := Lib.hid h2.len
  by_cases hnm : n = m
  · subst hnm
    go_enter Try.func14, Try.ntmps14
    go_wp2
    go_loopw [5] (fun i wr => ∃ k : Nat, k ≤ n ∧ i = .int .i64 k ∧ xs.take k = ys.take k ∧ Below w.heap.size w wr) (fun i _ => n - (intOf i).toNat)
    case atStart => exact ⟨0, Nat.zero_le _, rfl, by simp, Below.refl _ _⟩
    case round =>
      obtain ⟨k, hk, rfl, heq, hb⟩ := hrel
      have Heq := Lib.hid heq
      clear heq
      by_cases hlt : k < n
      · obtain ⟨b, o, x, rfl, hbl, hx, hc⟩ := (h1.below hb).at_ hlt
        obtain ⟨b2, o2, y, rfl, hbl2, hy, hc2⟩ := (h2.below hb).at_ hlt
        have Hx := Lib.hid hx
        have Hy := Lib.hid hy
        clear hx hy
        have hki : (k : Int) < (n : Int) := by omega
        by_cases he : (x.toList == y.toList) = true
        · have Hs := Lib.hid (take_same Hx.out Hy.out Heq.out (by simpa [bs_eq] using he))
          have he2 : (x.toList != y.toList) = false := by simpa using he
          go_wp2
          go_quiet (fail)
          go_wp2
          go_roundw
          case rel => exact ⟨k + 1, by omega, by go_num, Hs.out, below_drewN hb _⟩
          case measure => simp [intOf]; omega
        · have he : (x.toList == y.toList) = false := by simpa using he
          have he2 : (x.toList != y.toList) = true := by simpa using he
          have Hne : Hid (x ≠ y) := Lib.hid (by intro h; rw [h] at he; simp at he)
          go_wp2
          go_quiet (fail)
          go_wp2
          go_ret
          refine ⟨ret_bool ?_, below_drewN hb _⟩
          rw [eq_comm, decide_eq_false_iff_not]
          intro h
          subst h
          have := Hx.out.symm.trans Hy.out
          simp at this
          exact Hne.out this
      · go_wp2
        go_ret
        refine ⟨ret_bool ?_, hb⟩
        have h := Heq.out
        rw [List.take_of_length_le (by rw [Hl1.out]; omega), List.take_of_length_le (by rw [Hl2.out]; omega)] at h
        simp [h]
  · have hd : ((n : Int) == (m : Int)) = false := by simp; omega
    have hd2 : ((n : Int) != (m : Int)) = true := by simp; omega
    have Hnm := Lib.hid hnm
    clear hnm
    go_enter Try.func14, Try.ntmps14
    go_wp2
    go_ret
    refine ⟨ret_bool ?_, Below.refl _ _⟩
    rw [eq_comm, decide_eq_false_iff_not]
    intro h
    exact Hnm.out (by rw [← Hl1.out, ← Hl2.out, h])

/-! the example -/
theorem resB_alt (s : ByteArray) : resB s = wordsL.any fun x => decide (x = s) := by
  unfold resB
  congr 1
  funext x
  exact bs_eq
def exE : Ex := .mk 3 1 (str []) (str []) (str []) []
def exS : St := .mk 5 (str [97]) (str [116]) 0 [] [exE] [] []
def exP : Pr := ⟨str [112], str [], str [], 1, [], [exS]⟩
theorem free_p : freeB (str [112]) = true := by rw [freeB, resB_alt]; decide +kernel
theorem free_a : freeB (str [97]) = true := by rw [freeB, resB_alt]; decide +kernel
theorem free_t : freeB (str [116]) = true := by rw [freeB, resB_alt]; decide +kernel
theorem noS_e : noS (str []) = true := by unfold noS; decide +kernel
theorem ex_size : sizeP 2 exP = (2, 2) := by decide +kernel
theorem ex_told : toldZ (sizeP 2 exP) = (2, 2) := by rw [ex_size]; rfl
theorem ex_headE : headE exE = true := by decide +kernel
theorem ex_builtE (d : Nat) : builtE (d + 1) exE = true := by rw [builtE, ex_headE]; rfl
theorem ex_shape : shapeB exS = true := by
  have h : shapeB exS = shapeP true false false false false true 1 1 (str [97]) (str [116]) 0 [] 1 0 0 := rfl
  rw [h]
  unfold shapeP
  simp [free_a, free_t]
theorem ex_builtS : builtS 2 exS = true := by
  rw [builtS, ex_shape]
  simp [exS, St.exprs, St.body, St.els, ex_builtE]
theorem ex_heads : headsR (str [112]) (str []) (str []) 1 [] = true := by
  unfold headsR
  simp [free_p, noS_e, freesB]
theorem ex_right : rightB 2 exP = true := by
  have h : rightB 2 exP = (headsR (str [112]) (str []) (str []) 1 [] && smallZ (sizeP 2 exP) && [exS].all (builtS 2)) := rfl
  rw [h, ex_heads, ex_size]
  simp [ex_builtS, smallZ]
theorem ex_reads : readsP 2 exP = [str [116]] := by
  have h : readsP 2 exP = if rightB 2 exP then [str [116]] else [] := rfl
  rw [h, ex_right]; rfl
theorem ex_writes : writesP 2 exP = [str [116]] := by
  have h : writesP 2 exP = if rightB 2 exP then [str [116]] else [] := rfl
  rw [h, ex_right]; rfl
theorem ex_set : setL [str [116]] = [[116]] := by
  have h : (strKeys (setOf (.lit (.bool true)) ([str [116]].map litS) : DataW Unit)) = [[116]] := by rfl
  rw [setL, h]
  simp

theorem OwnsN.names {w : World} {base : Nat} {A : Option Addr} {c : Nat} {ns : List (List UInt8)} (h : w.ownsRow base 9 1 (.slice A ns.length c) ns.length (ns.map encStr)) : NamesAt w A ns.length c (ns.map str) := by
  have e : ((ns.map str).map srow).flatten = ns.map encStr := by
    rw [List.map_map]
    induction ns with
    | nil => rfl
    | cons a r ih =>
      have : ∀ r : List (List UInt8), (r.map (srow ∘ str)).flatten = r.map encStr := by
        intro r
        induction r with
        | nil => rfl
        | cons b r ih => rw [List.map_cons, List.flatten_cons, ih]; rfl
      exact this _
  exact RowsAt.of_own (e ▸ h) srow_len (by simp)
end Go.Proofs.Ytgihhkfppnhdpaa

namespace Go.Proofs.Ytgihhkfppnhdpaa
open Go.RowKit Go.Afx

/-- is a letter in a text -/
def inB (s : ByteArray) (c : UInt8) : Bool := s.data.toList.any fun x => x == c
set_option maxHeartbeats 1000000 in
theorem in_any (s : ByteArray) (c : UInt8) (w : World) (hs : okS s) : Calls Try.prog 61 #[.string s, .int .u8 (c.toNat : Int)] w fun x w' => x = .returned (.bool (inB s c)) ∧ w = w' := by
  unfold okS at hs
  go_enter Try.func61, Try.ntmps61
  go_wp2
  go_loop [5] (fun i => ∃ k : Nat, k ≤ s.size ∧ i = .int .i64 k ∧ ∀ y ∈ s.data.toList.take k, (y == c) = false) (fun i => s.size - (intOf i).toNat)
  case atStart => exact ⟨0, Nat.zero_le _, rfl, by simp⟩
  case round =>
    obtain ⟨k, hk, rfl, hno⟩ := hrel
    have Hno := Lib.hid hno
    clear hno
    by_cases hlt : k < s.size
    · have Hy := Lib.hid (show s.data.toList[k]? = some s[k] by rw [List.getElem?_eq_getElem (by simpa using hlt)]; rfl)
      by_cases he : (s[k] == c) = true
      · have Hf : Hid (inB s c = true) := Lib.hid (by unfold inB; rw [List.any_eq_true]; exact ⟨_, List.mem_of_getElem? Hy.out, he⟩)
        have hd : ((s[k].toNat : Int) == (c.toNat : Int)) = true := by
          have : s[k] = c := by simpa using he
          rw [this]; simp
        clear he
        go_wp2
        go_ret
        exact ⟨ret_bool Hf.out.symm, rfl⟩
      · have he : (s[k] == c) = false := by simpa using he
        have Hne := Lib.hid (mem_take_succ Hy.out Hno.out he)
        have hd : ((s[k].toNat : Int) == (c.toNat : Int)) = false := by
          rw [beq_eq_false_iff_ne]
          intro h
          have h2 : s[k].toNat = c.toNat := by exact_mod_cast h
          have : s[k] = c := UInt8.toNat_inj.1 h2
          simp [this] at he
        clear he
        go_wp2
        go_round
        case rel => exact ⟨k + 1, by omega, by go_num, Hne.out⟩
        case measure => simp [intOf]; omega
    · go_wp2
      go_ret
      have h1 := Hno.out
      rw [List.take_of_length_le (by simp; omega)] at h1
      exact ⟨ret_bool (by unfold inB; rw [eq_comm, List.any_eq_false]; exact fun y hy => by simp [h1 y hy]), rfl⟩
end Go.Proofs.Ytgihhkfppnhdpaa

namespace Go.Proofs.Ytgihhkfppnhdpaa
open Go.RowKit Go.Afx

def headR (op n : Int) (s name src : ByteArray) (l : Nat) : Bool := decide (arityB op = (l : Int)) && fieldsR op n s name src
theorem headR_1 {n : Int} {s name src : ByteArray} {l : Nat} : headR 1 n s name src l = (decide (l = 0) && (decide (0 ≤ n) && noS s && noS name && noS src)) := by
  have ha : arityB 1 = 0 := rfl
  have hf : fieldsR 1 n s name src = (decide (0 ≤ n) && noS s && noS name && noS src) := rfl
  rw [headR, ha, hf]
  congr 1
  rw [decide_eq_decide]; omega
theorem headR_2 {n : Int} {s name src : ByteArray} {l : Nat} : headR 2 n s name src l = (decide (l = 0) && (decide (s.size ≤ 200) && decide (n = 0) && noS name && noS src)) := by
  have ha : arityB 2 = 0 := rfl
  have hf : fieldsR 2 n s name src = (decide (s.size ≤ 200) && decide (n = 0) && noS name && noS src) := rfl
  rw [headR, ha, hf]
  congr 1
  rw [decide_eq_decide]; omega
theorem headR_3 {n : Int} {s name src : ByteArray} {l : Nat} : headR 3 n s name src l = (decide (l = 0) && ((decide (n = 0) || decide (n = 1)) && noS s && noS name && noS src)) := by
  have ha : arityB 3 = 0 := rfl
  have hf : fieldsR 3 n s name src = ((decide (n = 0) || decide (n = 1)) && noS s && noS name && noS src) := rfl
  rw [headR, ha, hf]
  congr 1
  rw [decide_eq_decide]; omega
theorem headR_4 {n : Int} {s name src : ByteArray} {l : Nat} : headR 4 n s name src l = (decide (l = 0) && (freeB name && decide (n = 0) && noS s && noS src)) := by
  have ha : arityB 4 = 0 := rfl
  have hf : fieldsR 4 n s name src = (freeB name && decide (n = 0) && noS s && noS src) := rfl
  rw [headR, ha, hf]
  congr 1
  rw [decide_eq_decide]; omega
theorem headR_5 {n : Int} {s name src : ByteArray} {l : Nat} : headR 5 n s name src l = (decide (l = 0) && (freeB name && freeB s && decide (n = 0) && noS src)) := by
  have ha : arityB 5 = 0 := rfl
  have hf : fieldsR 5 n s name src = (freeB name && freeB s && decide (n = 0) && noS src) := rfl
  rw [headR, ha, hf]
  congr 1
  rw [decide_eq_decide]; omega
theorem headR_21 {n : Int} {s name src : ByteArray} {l : Nat} : headR 21 n s name src l = (decide (l = 1) && (freeB name && freeB src && decide (n = 0) && noS s)) := by
  have ha : arityB 21 = 1 := rfl
  have hf : fieldsR 21 n s name src = (freeB name && freeB src && decide (n = 0) && noS s) := rfl
  rw [headR, ha, hf]
  congr 1
  rw [decide_eq_decide]; omega
theorem headR_r {n : Int} {s name src : ByteArray} {l : Nat} (op : Int) (h : 22 ≤ op) (h' : op ≤ 24) : headR op n s name src l = (decide (l = 2) && (freeB name && freeB src && decide (n = 0) && noS s)) := by
  have ha : arityB op = 2 := by unfold arityB; repeat (first | rw [if_pos (by omega)] | rw [if_neg (by omega)])
  have hf : fieldsR op n s name src = (freeB name && freeB src && decide (n = 0) && noS s) := by
    unfold fieldsR
    have hr : rowsB op = true := by simp [rowsB]; omega
    repeat (rw [if_neg (by omega)])
    rw [if_pos hr]
  rw [headR, ha, hf]
  congr 1
  rw [decide_eq_decide]; omega
theorem headR_t {n : Int} {s name src : ByteArray} {l : Nat} (op : Int) (h : 6 ≤ op) (h' : op ≤ 18) : headR op n s name src l = (decide (l = 2) && (decide (n = 0) && noS s && noS name && noS src)) := by
  have ha : arityB op = 2 := by unfold arityB; repeat (first | rw [if_pos (by omega)] | rw [if_neg (by omega)])
  have hf : fieldsR op n s name src = (decide (n = 0) && noS s && noS name && noS src) := by
    unfold fieldsR
    have hr : rowsB op = false := by simp [rowsB]; omega
    repeat (rw [if_neg (by omega)])
    rw [hr]; rfl
  rw [headR, ha, hf]
  congr 1
  rw [decide_eq_decide]; omega
theorem headR_19 {n : Int} {s name src : ByteArray} {l : Nat} : headR 19 n s name src l = (decide (l = 1) && (decide (n = 0) && noS s && noS name && noS src)) := by
  have ha : arityB 19 = 1 := rfl
  have hf : fieldsR 19 n s name src = (decide (n = 0) && noS s && noS name && noS src) := rfl
  rw [headR, ha, hf]
  congr 1
  rw [decide_eq_decide]; omega
theorem headR_20 {n : Int} {s name src : ByteArray} {l : Nat} : headR 20 n s name src l = (decide (l = 1) && (decide (n = 0) && noS s && noS name && noS src)) := by
  have ha : arityB 20 = 1 := rfl
  have hf : fieldsR 20 n s name src = (decide (n = 0) && noS s && noS name && noS src) := rfl
  rw [headR, ha, hf]
  congr 1
  rw [decide_eq_decide]; omega

theorem set_other {w : World} {g i : Nat} {u : Value} {p : Addr} (h : p.block ≠ g) : (w.setCell ⟨g, i, none⟩ u).cell? p = w.cell? p := World.cell?_of_block (Below.heap_setCell _ _ _ _ h)

def RBuilts (F : Nat → Prop) (d : Nat) : Prop := ∀ (e : Ex) (row : List Value) (w : World), ExAt F d w row e →
  Calls Try.prog 62 #[.agg row.toArray] w fun x w' => x = .returned (.bool (builtE d e)) ∧ Below w.heap.size w w'
end Go.Proofs.Ytgihhkfppnhdpaa
