/- Parts of this proof, one behind the other: RefD. -/
import Derived.Test.YtgihhkfppnhdpaaSp17
import Derived.Test.YtgihhkfppnhdpaaSp8
import Derived.Test.YtgihhkfppnhdpaaSp28
import Derived.ProofKit
namespace Go.Proofs.Ytgihhkfppnhdpaa
open Go.RowKit Go.Afx Go.ChangeShapes Go.WideShapes Go.Deep

section
variable {H : Type} {enc : TypeId × Value → H} {w : World} {base : Nat} {spare : Nat → Bool} {held : Bool}

theorem fields_of {P : Program} {t : TypeId} {fs : Array Field} {fuel : Nat} {cs : List Value} {x : DataW H × List MemPlace} (ht : P.underlying t = some (.struct fs)) (h : DataW.trod enc P w base spare held fuel t cs = some x) :
    ∀ (i : Nat) (f : Field), fs[i]? = some f → ∃ m y, DataW.trod enc P w base spare held m f.type ((cs.drop f.offset).take (P.cellsOf f.type)) = some y := by
  obtain ⟨xs, n, _, _, _, hl, hf⟩ := DataW.trod_struct ht h
  intro i f hi
  have hlt : i < fs.size := (Array.getElem?_eq_some_iff.1 hi).1
  exact ⟨n, xs[i]'(by omega), by rw [hf i f hi]; exact List.getElem?_eq_getElem _⟩
theorem slice_of {P : Program} {t e : TypeId} {fuel : Nat} {v : Value} {x : DataW H × List MemPlace} (ht : P.underlying t = some (.slice e)) (h : DataW.trod enc P w base spare held fuel t [v] = some x) : ∃ A n c, v = .slice A n c := by
  rcases open_slice ht h with ⟨hcs, _⟩ | ⟨a, len, cap, m, q, D, Pl, hcs, _⟩
  · simp only [List.cons.injEq, and_true] at hcs; exact ⟨_, _, _, hcs⟩
  · simp only [List.cons.injEq, and_true] at hcs; exact ⟨_, _, _, hcs⟩
theorem six_of {r : List Value} (h : r.length = 6) : ∃ a b c d e f, r = [a, b, c, d, e, f] := by
  match r, h with
  | [a, b, c, d, e, f], _ => exact ⟨a, b, c, d, e, f, rfl⟩
theorem eight_of {r : List Value} (h : r.length = 8) : ∃ a b c d e f g k, r = [a, b, c, d, e, f, g, k] := by
  match r, h with
  | [a, b, c, d, e, f, g, k], _ => exact ⟨a, b, c, d, e, f, g, k, rfl⟩
theorem str_of {m : Nat} {v : Value} {y : DataW H × List MemPlace} (h : DataW.trod enc Try.prog w base spare held m 9 [v] = some y) : ∃ s, v = .string s ∧ okS s := by
  obtain ⟨s, hs, _, hk⟩ := DataW.trod_string Try.underlying9 h
  simp only [List.cons.injEq, and_true] at hs
  exact ⟨s, hs, hk⟩
theorem int_of {m : Nat} {v : Value} {y : DataW H × List MemPlace} (h : DataW.trod enc Try.prog w base spare held m 3 [v] = some y) : ∃ k, v = .int .i64 k ∧ okI k := by
  obtain ⟨k, hs, _, hk⟩ := DataW.trod_int Try.underlying3 h
  simp only [List.cons.injEq, and_true] at hs
  exact ⟨k, hs, okI_of hk⟩
theorem int64_of {m : Nat} {v : Value} {y : DataW H × List MemPlace} (h : DataW.trod enc Try.prog w base spare held m 2 [v] = some y) : ∃ k, v = .int .i64 k ∧ okI k := by
  obtain ⟨k, hs, _, hk⟩ := DataW.trod_int Try.underlying2 h
  simp only [List.cons.injEq, and_true] at hs
  exact ⟨k, hs, okI_of hk⟩
theorem ints_of {m : Nat} {v : Value} {y : DataW H × List MemPlace} (h : DataW.trod enc Try.prog w base spare held m 29 [v] = some y) : ∃ A n c xs, v = .slice A n c ∧ LsAt (Old w) w 1 IRow A n c xs := by
  obtain ⟨A, n, c, rfl⟩ := slice_of Try.underlying29 h
  obtain ⟨xs, hx⟩ := ints_of_trod Try.underlying29 Try.underlying3 (by kernel_rfl) h
  exact ⟨A, n, c, xs, rfl, hx⟩
theorem strs_of {m : Nat} {v : Value} {y : DataW H × List MemPlace} (h : DataW.trod enc Try.prog w base spare held m 40 [v] = some y) : ∃ A n c xs, v = .slice A n c ∧ LsAt (Old w) w 1 SRow A n c xs := by
  obtain ⟨A, n, c, rfl⟩ := slice_of Try.underlying40 h
  obtain ⟨xs, hx⟩ := strs_of_trod Try.underlying40 Try.underlying9 (by kernel_rfl) h
  exact ⟨A, n, c, xs, rfl, hx⟩
theorem cS : Try.prog.cellsOf 9 = 1 := by kernel_rfl
theorem cI : Try.prog.cellsOf 3 = 1 := by kernel_rfl
theorem cJ : Try.prog.cellsOf 2 = 1 := by kernel_rfl
theorem cIs : Try.prog.cellsOf 29 = 1 := by kernel_rfl
theorem cSs : Try.prog.cellsOf 40 = 1 := by kernel_rfl
theorem cCo : Try.prog.cellsOf 26 = 1 := by kernel_rfl
theorem cLf : Try.prog.cellsOf 27 = 1 := by kernel_rfl
theorem cKn : Try.prog.cellsOf 28 = 1 := by kernel_rfl
theorem co_of {m : Nat} {r : List Value} {y : DataW H × List MemPlace} (hl : r.length = 2) (h : DataW.trod enc Try.prog w base spare held m 84 r = some y) : ∃ c : Co, CoRow r c := by
  obtain ⟨a, b, rfl⟩ : ∃ a b, r = [a, b] := by
    match r, hl with
    | [a, b], _ => exact ⟨a, b, rfl⟩
  have hF := fields_of Try.underlying84 h
  obtain ⟨m0, y0, h0⟩ := hF 0 _ rfl
  obtain ⟨m1, y1, h1⟩ := hF 1 _ rfl
  replace h0 : DataW.trod enc Try.prog w base spare held m0 9 (([a, b] : List Value).drop 0 |>.take (Try.prog.cellsOf 9)) = some y0 := h0
  rw [cS] at h0
  replace h1 : DataW.trod enc Try.prog w base spare held m1 3 (([a, b] : List Value).drop 1 |>.take (Try.prog.cellsOf 3)) = some y1 := h1
  rw [cI] at h1
  obtain ⟨s, rfl, k1⟩ := str_of h0
  obtain ⟨i, rfl, k2⟩ := int_of h1
  exact ⟨⟨s, i⟩, rfl, k1, k2⟩
theorem cols_of {m : Nat} {v : Value} {y : DataW H × List MemPlace} (h : DataW.trod enc Try.prog w base spare held m 26 [v] = some y) : ∃ A n c xs, v = .slice A n c ∧ LsAt (Old w) w 2 CoRow A n c xs := by
  obtain ⟨A, n, c, rfl⟩ := slice_of Try.underlying26 h
  obtain ⟨xs, hx⟩ := ls_of_trod Try.underlying26 (by kernel_rfl) (by omega) CoRow (fun r m y hr hy => co_of hr hy) h
  exact ⟨A, n, c, xs, rfl, hx⟩
theorem lf_of {m : Nat} {r : List Value} {y : DataW H × List MemPlace} (hl : r.length = 6) (h : DataW.trod enc Try.prog w base spare held m 79 r = some y) : ∃ x : Lf, LfAt (Old w) w r x := by
  obtain ⟨a, b, c, d, e, f, rfl⟩ := six_of hl
  have hF := fields_of Try.underlying79 h
  obtain ⟨m0, y0, h0⟩ := hF 0 _ rfl
  obtain ⟨m1, y1, h1⟩ := hF 1 _ rfl
  obtain ⟨m2, y2, h2⟩ := hF 2 _ rfl
  obtain ⟨m3, y3, h3⟩ := hF 3 _ rfl
  obtain ⟨m4, y4, h4⟩ := hF 4 _ rfl
  obtain ⟨m5, y5, h5⟩ := hF 5 _ rfl
  replace h0 : DataW.trod enc Try.prog w base spare held m0 3 (([a, b, c, d, e, f] : List Value).drop 0 |>.take (Try.prog.cellsOf 3)) = some y0 := h0
  rw [cI] at h0
  replace h1 : DataW.trod enc Try.prog w base spare held m1 2 (([a, b, c, d, e, f] : List Value).drop 1 |>.take (Try.prog.cellsOf 2)) = some y1 := h1
  rw [cJ] at h1
  replace h2 : DataW.trod enc Try.prog w base spare held m2 9 (([a, b, c, d, e, f] : List Value).drop 2 |>.take (Try.prog.cellsOf 9)) = some y2 := h2
  rw [cS] at h2
  replace h3 : DataW.trod enc Try.prog w base spare held m3 9 (([a, b, c, d, e, f] : List Value).drop 3 |>.take (Try.prog.cellsOf 9)) = some y3 := h3
  rw [cS] at h3
  replace h4 : DataW.trod enc Try.prog w base spare held m4 9 (([a, b, c, d, e, f] : List Value).drop 4 |>.take (Try.prog.cellsOf 9)) = some y4 := h4
  rw [cS] at h4
  replace h5 : DataW.trod enc Try.prog w base spare held m5 29 (([a, b, c, d, e, f] : List Value).drop 5 |>.take (Try.prog.cellsOf 29)) = some y5 := h5
  rw [cIs] at h5
  obtain ⟨i0, rfl, k0⟩ := int_of h0
  obtain ⟨i1, rfl, k1⟩ := int64_of h1
  obtain ⟨s2, rfl, k2⟩ := str_of h2
  obtain ⟨s3, rfl, k3⟩ := str_of h3
  obtain ⟨s4, rfl, k4⟩ := str_of h4
  obtain ⟨A5, n5, c5, l5, rfl, k5⟩ := ints_of h5
  exact ⟨⟨i0, i1, s2, s3, s4, l5⟩, k0, k1, k2, k3, k4, A5, n5, c5, rfl, k5⟩
theorem leaves_of {m : Nat} {v : Value} {y : DataW H × List MemPlace} (h : DataW.trod enc Try.prog w base spare held m 27 [v] = some y) : ∃ A n c xs, v = .slice A n c ∧ LsAt (Old w) w 6 (LfAt (Old w) w) A n c xs := by
  obtain ⟨A, n, c, rfl⟩ := slice_of Try.underlying27 h
  obtain ⟨xs, hx⟩ := ls_of_trod Try.underlying27 (by kernel_rfl) (by omega) (LfAt (Old w) w) (fun r m y hr hy => lf_of hr hy) h
  exact ⟨A, n, c, xs, rfl, hx⟩
theorem kn_of {m : Nat} {r : List Value} {y : DataW H × List MemPlace} (hl : r.length = 8) (h : DataW.trod enc Try.prog w base spare held m 81 r = some y) : ∃ x : Kn, KnAt (Old w) w r x := by
  obtain ⟨a, b, c, d, e, f, g, k, rfl⟩ := eight_of hl
  have hF := fields_of Try.underlying81 h
  obtain ⟨m0, y0, h0⟩ := hF 0 _ rfl
  obtain ⟨m1, y1, h1⟩ := hF 1 _ rfl
  obtain ⟨m2, y2, h2⟩ := hF 2 _ rfl
  obtain ⟨m3, y3, h3⟩ := hF 3 _ rfl
  obtain ⟨m4, y4, h4⟩ := hF 4 _ rfl
  obtain ⟨m5, y5, h5⟩ := hF 5 _ rfl
  obtain ⟨m6, y6, h6⟩ := hF 6 _ rfl
  obtain ⟨m7, y7, h7⟩ := hF 7 _ rfl
  replace h0 : DataW.trod enc Try.prog w base spare held m0 3 (([a, b, c, d, e, f, g, k] : List Value).drop 0 |>.take (Try.prog.cellsOf 3)) = some y0 := h0
  rw [cI] at h0
  replace h1 : DataW.trod enc Try.prog w base spare held m1 9 (([a, b, c, d, e, f, g, k] : List Value).drop 1 |>.take (Try.prog.cellsOf 9)) = some y1 := h1
  rw [cS] at h1
  replace h2 : DataW.trod enc Try.prog w base spare held m2 9 (([a, b, c, d, e, f, g, k] : List Value).drop 2 |>.take (Try.prog.cellsOf 9)) = some y2 := h2
  rw [cS] at h2
  replace h3 : DataW.trod enc Try.prog w base spare held m3 3 (([a, b, c, d, e, f, g, k] : List Value).drop 3 |>.take (Try.prog.cellsOf 3)) = some y3 := h3
  rw [cI] at h3
  replace h4 : DataW.trod enc Try.prog w base spare held m4 40 (([a, b, c, d, e, f, g, k] : List Value).drop 4 |>.take (Try.prog.cellsOf 40)) = some y4 := h4
  rw [cSs] at h4
  replace h5 : DataW.trod enc Try.prog w base spare held m5 29 (([a, b, c, d, e, f, g, k] : List Value).drop 5 |>.take (Try.prog.cellsOf 29)) = some y5 := h5
  rw [cIs] at h5
  replace h6 : DataW.trod enc Try.prog w base spare held m6 29 (([a, b, c, d, e, f, g, k] : List Value).drop 6 |>.take (Try.prog.cellsOf 29)) = some y6 := h6
  rw [cIs] at h6
  replace h7 : DataW.trod enc Try.prog w base spare held m7 29 (([a, b, c, d, e, f, g, k] : List Value).drop 7 |>.take (Try.prog.cellsOf 29)) = some y7 := h7
  rw [cIs] at h7
  obtain ⟨i0, rfl, k0⟩ := int_of h0
  obtain ⟨s1, rfl, k1⟩ := str_of h1
  obtain ⟨s2, rfl, k2⟩ := str_of h2
  obtain ⟨i3, rfl, k3⟩ := int_of h3
  obtain ⟨A4, n4, c4, l4, rfl, k4⟩ := strs_of h4
  obtain ⟨A5, n5, c5, l5, rfl, k5⟩ := ints_of h5
  obtain ⟨A6, n6, c6, l6, rfl, k6⟩ := ints_of h6
  obtain ⟨A7, n7, c7, l7, rfl, k7⟩ := ints_of h7
  exact ⟨⟨i0, s1, s2, i3, l4, l5, l6, l7⟩, k0, k3, k1, k2, A4, n4, c4, A5, n5, c5, A6, n6, c6, A7, n7, c7, rfl, k4, k5, k6, k7⟩
theorem knots_of {m : Nat} {v : Value} {y : DataW H × List MemPlace} (h : DataW.trod enc Try.prog w base spare held m 28 [v] = some y) : ∃ A n c xs, v = .slice A n c ∧ LsAt (Old w) w 8 (KnAt (Old w) w) A n c xs := by
  obtain ⟨A, n, c, rfl⟩ := slice_of Try.underlying28 h
  obtain ⟨xs, hx⟩ := ls_of_trod Try.underlying28 (by kernel_rfl) (by omega) (KnAt (Old w) w) (fun r m y hr hy => kn_of hr hy) h
  exact ⟨A, n, c, xs, rfl, hx⟩
theorem say_of {m : Nat} {r : List Value} {y : DataW H × List MemPlace} (hl : r.length = 8) (h : DataW.trod enc Try.prog w base spare held m 31 r = some y) : ∃ (name src part : ByteArray) (fuel : Int) (Ap : Option Addr) (np cp : Nat) (params : List Co) (A A' : Option Addr) (n c n' c' : Nat) (xs : List Lf) (ys : List Kn) (Ak : Option Addr) (nk ck : Nat) (ks : List Int), r = [.string name, .string src, .string part, .int .i64 fuel, .slice Ap np cp, .slice A n c, .slice A' n' c', .slice Ak nk ck] ∧ LsAt (Old w) w 2 CoRow Ap np cp params ∧ LsAt (Old w) w 6 (LfAt (Old w) w) A n c xs ∧ LsAt (Old w) w 8 (KnAt (Old w) w) A' n' c' ys ∧ LsAt (Old w) w 1 IRow Ak nk ck ks ∧ okS name ∧ okS src ∧ okS part ∧ okI fuel := by
  obtain ⟨a, b, c, d, e, f, g, k, rfl⟩ := eight_of hl
  have hF := fields_of Try.underlying31 h
  obtain ⟨m0, y0, h0⟩ := hF 0 _ rfl
  obtain ⟨m1, y1, h1⟩ := hF 1 _ rfl
  obtain ⟨m2, y2, h2⟩ := hF 2 _ rfl
  obtain ⟨m3, y3, h3⟩ := hF 3 _ rfl
  obtain ⟨m4, y4, h4⟩ := hF 4 _ rfl
  obtain ⟨m5, y5, h5⟩ := hF 5 _ rfl
  obtain ⟨m6, y6, h6⟩ := hF 6 _ rfl
  obtain ⟨m7, y7, h7⟩ := hF 7 _ rfl
  replace h0 : DataW.trod enc Try.prog w base spare held m0 9 (([a, b, c, d, e, f, g, k] : List Value).drop 0 |>.take (Try.prog.cellsOf 9)) = some y0 := h0
  rw [cS] at h0
  replace h1 : DataW.trod enc Try.prog w base spare held m1 9 (([a, b, c, d, e, f, g, k] : List Value).drop 1 |>.take (Try.prog.cellsOf 9)) = some y1 := h1
  rw [cS] at h1
  replace h2 : DataW.trod enc Try.prog w base spare held m2 9 (([a, b, c, d, e, f, g, k] : List Value).drop 2 |>.take (Try.prog.cellsOf 9)) = some y2 := h2
  rw [cS] at h2
  replace h3 : DataW.trod enc Try.prog w base spare held m3 3 (([a, b, c, d, e, f, g, k] : List Value).drop 3 |>.take (Try.prog.cellsOf 3)) = some y3 := h3
  rw [cI] at h3
  replace h4 : DataW.trod enc Try.prog w base spare held m4 26 (([a, b, c, d, e, f, g, k] : List Value).drop 4 |>.take (Try.prog.cellsOf 26)) = some y4 := h4
  rw [cCo] at h4
  replace h5 : DataW.trod enc Try.prog w base spare held m5 27 (([a, b, c, d, e, f, g, k] : List Value).drop 5 |>.take (Try.prog.cellsOf 27)) = some y5 := h5
  rw [cLf] at h5
  replace h6 : DataW.trod enc Try.prog w base spare held m6 28 (([a, b, c, d, e, f, g, k] : List Value).drop 6 |>.take (Try.prog.cellsOf 28)) = some y6 := h6
  rw [cKn] at h6
  replace h7 : DataW.trod enc Try.prog w base spare held m7 29 (([a, b, c, d, e, f, g, k] : List Value).drop 7 |>.take (Try.prog.cellsOf 29)) = some y7 := h7
  rw [cIs] at h7
  obtain ⟨name, rfl, k0⟩ := str_of h0
  obtain ⟨src, rfl, k1⟩ := str_of h1
  obtain ⟨part, rfl, k2⟩ := str_of h2
  obtain ⟨fuel, rfl, k3⟩ := int_of h3
  obtain ⟨Ap, np, cp, params, rfl, k4⟩ := cols_of h4
  obtain ⟨A, n, c, xs, rfl, k5⟩ := leaves_of h5
  obtain ⟨A', n', c', ys, rfl, k6⟩ := knots_of h6
  obtain ⟨Ak, nk, ck, ks, rfl, k7⟩ := ints_of h7
  exact ⟨name, src, part, fuel, Ap, np, cp, params, A, A', n, c, n', c', xs, ys, Ak, nk, ck, ks, rfl, k4, k5, k6, k7, k0, k1, k2, k3⟩
end
end Go.Proofs.Ytgihhkfppnhdpaa
