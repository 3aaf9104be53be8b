/- Syntax, part Z1: the document's comparison of two lists of texts; the document's example. -/
import Derived.Test.YtgihhkfppnhdpaaSynZ
namespace Go.Proofs.Ytgihhkfppnhdpaa
open Go.RowKit Go.Afx Go.Maps

/-- the slice reads as these texts -/
def NamesAt (w : World) (A : Option Addr) (n c : Nat) (xs : List ByteArray) : Prop := RowsAt w 1 A n c (xs.map srow)
theorem NamesAt.below {w w' : World} {A : Option Addr} {n c : Nat} {xs : List ByteArray} (h : NamesAt w A n c xs) (hb : Below w.heap.size w w') : NamesAt w' A n c xs := RowsAt.below h hb
theorem NamesAt.len {w : World} {A : Option Addr} {n c : Nat} {xs : List ByteArray} (h : NamesAt w A n c xs) : xs.length = n := by have := RowsAt.len h; simpa using this
theorem NamesAt.at_ {w : World} {A : Option Addr} {n c : Nat} {xs : List ByteArray} (h : NamesAt w A n c xs) {k : Nat} (hk : k < n) : ∃ b o x, A = some ⟨b, o, none⟩ ∧ b < w.heap.size ∧ xs[k]? = some x ∧ w.cell? ⟨b, o + k, none⟩ = some (.string x) := by
  have hl := h.len
  have hx : xs[k]? = some (xs[k]'(by omega)) := List.getElem?_eq_getElem _
  obtain ⟨b, o, hA, hb, hc⟩ := RowsAt.one (u := .string (xs[k]'(by omega))) h (k := k) (by rw [List.getElem?_map, hx]; rfl)
  exact ⟨b, o, _, hA, hb, hx, hc⟩

theorem take_same {xs ys : List ByteArray} {k : Nat} {x y : ByteArray} (hx : xs[k]? = some x) (hy : ys[k]? = some y) (h : xs.take k = ys.take k) (he : x = y) : xs.take (k + 1) = ys.take (k + 1) := by
  rw [take_succ_of' hx, take_succ_of' hy, h, he]

set_option maxHeartbeats 1000000 in
theorem sameRef_any (A A2 : Option Addr) (n c m c2 : Nat) (xs ys : List ByteArray) (w : World) (h1 : NamesAt w A n c xs) (h2 : NamesAt w A2 m c2 ys) :
    Calls Try.prog 14 #[.slice A n c, .slice A2 m c2] w fun x w' => x = .returned (.bool (decide (xs = ys))) ∧ Below w.heap.size w w' := by
  have hn := RowsAt.n_le h1
  have hm := RowsAt.n_le h2
  have Hl1 := Lib.hid h1.len
  have Hl2 := Lib.hid h2.len
  by_cases hnm : n = m
  · subst hnm
    go_enter Try.func14, Try.ntmps14
    go_wp2
    go_loopw [5] (fun i wr => ∃ k : Nat, k ≤ n ∧ i = .int .i64 k ∧ xs.take k = ys.take k ∧ Below w.heap.size w wr) (fun i _ => n - (intOf i).toNat)
    case atStart => exact ⟨0, Nat.zero_le _, rfl, by simp, Below.refl _ _⟩
    case round =>
      obtain ⟨k, hk, rfl, heq, hb⟩ := hrel
      have Heq := Lib.hid heq
      clear heq
      by_cases hlt : k < n
      · obtain ⟨b, o, x, rfl, hbl, hx, hc⟩ := (h1.below hb).at_ hlt
        obtain ⟨b2, o2, y, rfl, hbl2, hy, hc2⟩ := (h2.below hb).at_ hlt
        have Hx := Lib.hid hx
        have Hy := Lib.hid hy
        clear hx hy
        have hki : (k : Int) < (n : Int) := by omega
        by_cases he : (x.toList == y.toList) = true
        · have Hs := Lib.hid (take_same Hx.out Hy.out Heq.out (by simpa [bs_eq] using he))
          have he2 : (x.toList != y.toList) = false := by simpa using he
          go_wp2
          go_quiet (fail)
          go_wp2
          go_roundw
          case rel => exact ⟨k + 1, by omega, by go_num, Hs.out, below_drewN hb _⟩
          case measure => simp [intOf]; omega
        · have he : (x.toList == y.toList) = false := by simpa using he
          have he2 : (x.toList != y.toList) = true := by simpa using he
          have Hne : Hid (x ≠ y) := Lib.hid (by intro h; rw [h] at he; simp at he)
          go_wp2
          go_quiet (fail)
          go_wp2
          go_ret
          refine ⟨ret_bool ?_, below_drewN hb _⟩
          rw [eq_comm, decide_eq_false_iff_not]
          intro h
          subst h
          have := Hx.out.symm.trans Hy.out
          simp at this
          exact Hne.out this
      · go_wp2
        go_ret
        refine ⟨ret_bool ?_, hb⟩
        have h := Heq.out
        rw [List.take_of_length_le (by rw [Hl1.out]; omega), List.take_of_length_le (by rw [Hl2.out]; omega)] at h
        simp [h]
  · have hd : ((n : Int) == (m : Int)) = false := by simp; omega
    have hd2 : ((n : Int) != (m : Int)) = true := by simp; omega
    have Hnm := Lib.hid hnm
    clear hnm
    go_enter Try.func14, Try.ntmps14
    go_wp2
    go_ret
    refine ⟨ret_bool ?_, Below.refl _ _⟩
    rw [eq_comm, decide_eq_false_iff_not]
    intro h
    exact Hnm.out (by rw [← Hl1.out, ← Hl2.out, h])

/-! the example -/
theorem resB_alt (s : ByteArray) : resB s = wordsL.any fun x => decide (x = s) := by
  unfold resB
  congr 1
  funext x
  exact bs_eq
def exE : Ex := .mk 3 1 (str []) (str []) (str []) []
def exS : St := .mk 5 (str [97]) (str [116]) 0 [] [exE] [] []
def exP : Pr := ⟨str [112], str [], str [], 1, [], [exS]⟩
theorem free_p : freeB (str [112]) = true := by rw [freeB, resB_alt]; decide +kernel
theorem free_a : freeB (str [97]) = true := by rw [freeB, resB_alt]; decide +kernel
theorem free_t : freeB (str [116]) = true := by rw [freeB, resB_alt]; decide +kernel
theorem noS_e : noS (str []) = true := by unfold noS; decide +kernel
theorem ex_size : sizeP 2 exP = (2, 2) := by decide +kernel
theorem ex_told : toldZ (sizeP 2 exP) = (2, 2) := by rw [ex_size]; rfl
theorem ex_headE : headE exE = true := by decide +kernel
theorem ex_builtE (d : Nat) : builtE (d + 1) exE = true := by rw [builtE, ex_headE]; rfl
theorem ex_shape : shapeB exS = true := by
  have h : shapeB exS = shapeP true false false false false true 1 1 (str [97]) (str [116]) 0 [] 1 0 0 := rfl
  rw [h]
  unfold shapeP
  simp [free_a, free_t]
theorem ex_builtS : builtS 2 exS = true := by
  rw [builtS, ex_shape]
  simp [exS, St.exprs, St.body, St.els, ex_builtE]
theorem ex_heads : headsR (str [112]) (str []) (str []) 1 [] = true := by
  unfold headsR
  simp [free_p, noS_e, freesB]
theorem ex_right : rightB 2 exP = true := by
  have h : rightB 2 exP = (headsR (str [112]) (str []) (str []) 1 [] && smallZ (sizeP 2 exP) && [exS].all (builtS 2)) := rfl
  rw [h, ex_heads, ex_size]
  simp [ex_builtS, smallZ]
theorem ex_reads : readsP 2 exP = [str [116]] := by
  have h : readsP 2 exP = if rightB 2 exP then [str [116]] else [] := rfl
  rw [h, ex_right]; rfl
theorem ex_writes : writesP 2 exP = [str [116]] := by
  have h : writesP 2 exP = if rightB 2 exP then [str [116]] else [] := rfl
  rw [h, ex_right]; rfl
theorem ex_set : setL [str [116]] = [[116]] := by
  have h : (strKeys (setOf (.lit (.bool true)) ([str [116]].map litS) : DataW Unit)) = [[116]] := by rfl
  rw [setL, h]
  simp

theorem OwnsN.names {w : World} {base : Nat} {A : Option Addr} {c : Nat} {ns : List (List UInt8)} (h : w.ownsRow base 9 1 (.slice A ns.length c) ns.length (ns.map encStr)) : NamesAt w A ns.length c (ns.map str) := by
  have e : ((ns.map str).map srow).flatten = ns.map encStr := by
    rw [List.map_map]
    induction ns with
    | nil => rfl
    | cons a r ih =>
      have : ∀ r : List (List UInt8), (r.map (srow ∘ str)).flatten = r.map encStr := by
        intro r
        induction r with
        | nil => rfl
        | cons b r ih => rw [List.map_cons, List.flatten_cons, ih]; rfl
      exact this _
  exact RowsAt.of_own (e ▸ h) srow_len (by simp)
end Go.Proofs.Ytgihhkfppnhdpaa
