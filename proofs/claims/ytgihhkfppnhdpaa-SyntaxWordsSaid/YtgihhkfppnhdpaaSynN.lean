/- Syntax, part N: a procedure's size; whether it is right. -/
import Derived.Test.YtgihhkfppnhdpaaSynM
namespace Go.Proofs.Ytgihhkfppnhdpaa
open Go.RowKit Go.Afx

theorem rightB_eq (d : Nat) (p : Pr) : rightB d p = (headsR p.name p.src p.part p.fuel p.params && smallZ (allZ 0 (sizeS d 0) (0, 0) p.body) && p.body.all (builtS d)) := rfl

set_option maxHeartbeats 1000000 in
theorem size_any (F : Nat → Prop) (d : Nat) (p : Pr) (row : List Value) (w : World) (h : PrAt F d w row p) (hd : d ≤ 10000) :
    Calls Try.prog 12 #[.agg row.toArray] w fun x w' => x = .returned (.tuple #[.int .i64 (toldZ (sizeP d p)).1, .int .i64 (toldZ (sizeP d p)).2]) ∧ Below w.heap.size w w' := by
  obtain ⟨_, _, _, _, Ap, np, cp, Ab, nb, cb, rfl, _, hbl⟩ := h
  have hb1 : Below w.heap.size w (w.alloc (.cells #[.string p.name, .string p.src, .string p.part, .int .i64 p.fuel, .slice Ap np cp, .slice Ab nb cb] 34)) := (Below.refl _ _).alloc (Nat.le_refl _) _
  have Ha := Lib.hid (allS_any F d (sizeS_any F d) Ab nb cb p.body 0 _ (hbl.below hb1) (by omega) (by omega))
  have hfin : allZ 0 (sizeS d 0) (0, 0) p.body = sizeP d p := rfl
  rw [hfin] at Ha
  clear hfin
  generalize sizeP d p = s at *
  obtain ⟨s1, s2⟩ := s
  obtain ⟨t, Hto⟩ : ∃ t, Hid (toldZ (s1, s2) = t) := ⟨_, rfl⟩
  rw [Hto.out]
  obtain ⟨t1, t2⟩ := t
  go_enter Try.func12, Try.ntmps12
  go_wp2_with (go_at_call 30; refine Ha.out.mono ?_; rintro x w1 ⟨rfl, hb⟩)
  have hk : IsBlk (w1.alloc (.cells #[.int .i64 s1, .int .i64 s2] 63)) w1.heap.size 63 #[.int .i64 s1, .int .i64 s2] := IsBlk.laid _ _ _
  have hb2 := (hb1.trans (hb.mono hb1.size)).alloc (by have := hb.size; simp at this; omega) (.cells #[.int .i64 s1, .int .i64 s2] 63)
  have ht := told_any _ s1 s2 _ hk
  rw [Hto.out] at ht
  have Ht := Lib.hid ht
  clear hk ht
  go_wp2_with (go_at_call 32; refine Ht.out.mono ?_; rintro x w2 ⟨rfl, hb3⟩)
  go_ret2
  exact ⟨rfl, hb2.trans (hb3.mono (by simp; have := hb.size; simp at this; omega))⟩

set_option maxHeartbeats 2000000 in
theorem right_any (F : Nat → Prop) (d : Nat) (p : Pr) (row : List Value) (w : World) (h : PrAt F d w row p) (hd : d ≤ 10000) (hbig : p.params.length ≤ 1000000) :
    Calls Try.prog 16 #[.agg row.toArray] w fun x w' => x = .returned (.bool (rightB d p)) ∧ Below w.heap.size w w' := by
  obtain ⟨okn, oks, okp, _, Ap, np, cp, Ab, nb, cb, rfl, hpl, hbl⟩ := h
  rw [hpl.len] at hbig
  have hb1 : Below w.heap.size w (w.alloc (.cells #[.string p.name, .string p.src, .string p.part, .int .i64 p.fuel, .slice Ap np cp, .slice Ab nb cb] 34)) := (Below.refl _ _).alloc (Nat.le_refl _) _
  have hx1 : IsBlk (w.alloc (.cells #[.string p.name, .string p.src, .string p.part, .int .i64 p.fuel, .slice Ap np cp, .slice Ab nb cb] 34)) w.heap.size 34 #[.string p.name, .string p.src, .string p.part, .int .i64 p.fuel, .slice Ap np cp, .slice Ab nb cb] := IsBlk.laid _ _ _
  have Hx1 := Lib.hid hx1
  have Ha := Lib.hid (allS_any F d (sizeS_any F d) Ab nb cb p.body 0 _ (hbl.below hb1) (by omega) (by omega))
  have Hh := Lib.hid (fun W (hW : Below w.heap.size w W) => heads_any F p.name p.src p.part p.fuel Ap Ab np cp nb cb p.params W (hpl.below hW) okn oks hbig)
  have Hb := Lib.hid (fun W (hW : Below w.heap.size w W) => blocks_any F d Ab nb cb p.body W (hbl.below hW))
  have hfin := rightB_eq d p
  generalize allZ 0 (sizeS d 0) (0, 0) p.body = s at *
  generalize headsR p.name p.src p.part p.fuel p.params = qh at *
  generalize p.body.all (builtS d) = qb at *
  generalize rightB d p = fin at *
  have Hfin := Lib.hid hfin
  clear hfin hx1
  obtain ⟨s1, s2⟩ := s
  go_enter Try.func16, Try.ntmps16
  go_upto_region 2 with (go_at_call 30; refine Ha.out.mono ?_; rintro x w1 ⟨rfl, hb⟩; have hx2 := Hx1.out.as_was (hb.block _ Hx1.out.lt))
  have hz := hb.size
  simp at hz
  have hk : IsBlk (w1.alloc (.cells #[.int .i64 s1, .int .i64 s2] 63)) w1.heap.size 63 #[.int .i64 s1, .int .i64 s2] := IsBlk.laid _ _ _
  have hx3 := hx2.alloc (.cells #[.int .i64 s1, .int .i64 s2] 63)
  have hb2 := (hb1.trans (hb.mono hb1.size)).alloc (by omega) (.cells #[.int .i64 s1, .int .i64 s2] 63)
  have Hk := Lib.hid hk
  have Hx3 := Lib.hid hx3
  have Hs := Lib.hid (fun W (h : IsBlk W w1.heap.size 63 #[.int .i64 s1, .int .i64 s2]) => small_any _ s1 s2 W h)
  obtain ⟨z0, z1, z2, z3, z4, z5, zl⟩ := prBox hx2
  clear hk hx2 hx3
  generalize smallZ (s1, s2) = qs at *
  cases qh <;> cases qs
  all_goals
    go_wp2_with (first | (go_at_call 36; refine (Hh.out _ hb2).mono ?_; rintro x w3 ⟨rfl, hb3⟩; have hk3 := Hk.out.as_was (hb3.block _ Hk.out.lt); have hx4 := Hx3.out.as_was (hb3.block _ Hx3.out.lt); have hb03 := hb2.trans (hb3.mono hb2.size); obtain ⟨y0, y1, y2, y3, y4, y5, yl⟩ := prBox hx4) | (go_at_call 37; refine (Hs.out _ hk3).mono ?_; rintro x w' ⟨rfl, rfl⟩) | (go_at_call 38; refine (Hb.out _ hb03).mono ?_; rintro x w4 ⟨rfl, hb4⟩))
    go_ret
    first | exact ⟨ret_bool (by rw [Hfin.out]; simp), hb03.trans (hb4.mono hb03.size)⟩ | exact ⟨ret_bool (by rw [Hfin.out]; simp), hb03⟩
end Go.Proofs.Ytgihhkfppnhdpaa
