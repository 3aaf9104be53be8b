/- Syntax, part Z2: the document's example, walked. -/
import Derived.Test.YtgihhkfppnhdpaaSynZ1
namespace Go.Proofs.Ytgihhkfppnhdpaa
open Go.RowKit Go.Afx Go.Maps

theorem size_ex (row : List Value) (w : World) (h : PrAt (fun k => k < w.heap.size) 2 w row exP) : Calls Try.prog 12 #[.agg row.toArray] w fun x w' => x = .returned (.tuple #[.int .i64 2, .int .i64 2]) ∧ Below w.heap.size w w' := by
  have h1 := size_any _ 2 exP row w h (by omega)
  rw [ex_told] at h1
  exact h1
theorem right_ex (F : Nat → Prop) (row : List Value) (w : World) (h : PrAt F 2 w row exP) : Calls Try.prog 16 #[.agg row.toArray] w fun x w' => x = .returned (.bool true) ∧ Below w.heap.size w w' := by
  have h1 := right_any _ 2 exP row w h (by omega) (by simp [exP])
  rw [ex_right] at h1
  exact h1
theorem reads_ex (F : Nat → Prop) (row : List Value) (w : World) (h : PrAt F 2 w row exP) (hF : ∀ k, F k → k < w.heap.size) : Calls Try.prog 13 #[.agg row.toArray] w fun x w' => ∃ A c, x = .returned (.slice A 1 c) ∧ NamesAt w' A 1 c [str [116]] ∧ Below w.heap.size w w' := by
  have h1 := reads_any F 2 exP row w h hF (by omega) (by simp [exP]) (by rw [ex_reads]; simp)
  rw [ex_reads, ex_set] at h1
  refine h1.mono ?_
  rintro e w' ⟨A, c, rfl, hown, hb⟩
  exact ⟨A, c, rfl, OwnsN.names hown, hb⟩
theorem writes_ex (F : Nat → Prop) (row : List Value) (w : World) (h : PrAt F 2 w row exP) (hF : ∀ k, F k → k < w.heap.size) : Calls Try.prog 18 #[.agg row.toArray] w fun x w' => ∃ A c, x = .returned (.slice A 1 c) ∧ NamesAt w' A 1 c [str [116]] ∧ Below w.heap.size w w' := by
  have h1 := writes_any F 2 exP row w h hF (by omega) (by simp [exP]) (by rw [ex_writes]; simp)
  rw [ex_writes, ex_set] at h1
  refine h1.mono ?_
  rintro e w' ⟨A, c, rfl, hown, hb⟩
  exact ⟨A, c, rfl, OwnsN.names hown, hb⟩
theorem names_one {w : World} {g : Nat} (T : TypeId) (a : ByteArray) (hg : g = w.heap.size) : NamesAt (w.alloc (.cells #[.string a] T)) (some ⟨g, 0, none⟩) 1 1 [a] := RowsAt.lit' _ _ 1 hg rfl srow_len rfl (by unfold maxLen; omega)

theorem ex_at {g1 g2 : Nat} (T2 T3 : TypeId) (o3 : Obj) (w1 : World) (hg1 : g1 = w1.heap.size) (hg2 : g2 = (w1.alloc (.cells #[.int .i64 3, .int .i64 1, .string ⟨#[]⟩, .string ⟨#[]⟩, .string ⟨#[]⟩, .slice none 0 0] T2)).heap.size) :
    PrAt (fun k => k < (((w1.alloc (.cells #[.int .i64 3, .int .i64 1, .string ⟨#[]⟩, .string ⟨#[]⟩, .string ⟨#[]⟩, .slice none 0 0] T2)).alloc (.cells #[.int .i64 5, .string ⟨#[97]⟩, .string ⟨#[116]⟩, .int .i64 0, .slice none 0 0, .slice (some ⟨g1, 0, none⟩) 1 1, .slice none 0 0, .slice none 0 0] T3)).alloc o3).heap.size) 2
      (((w1.alloc (.cells #[.int .i64 3, .int .i64 1, .string ⟨#[]⟩, .string ⟨#[]⟩, .string ⟨#[]⟩, .slice none 0 0] T2)).alloc (.cells #[.int .i64 5, .string ⟨#[97]⟩, .string ⟨#[116]⟩, .int .i64 0, .slice none 0 0, .slice (some ⟨g1, 0, none⟩) 1 1, .slice none 0 0, .slice none 0 0] T3)).alloc o3)
      [.string ⟨#[112]⟩, .string ⟨#[]⟩, .string ⟨#[]⟩, .int .i64 1, .slice none 0 0, .slice (some ⟨g2, 0, none⟩) 1 1] exP := by
  generalize hW : (((w1.alloc (.cells #[.int .i64 3, .int .i64 1, .string ⟨#[]⟩, .string ⟨#[]⟩, .string ⟨#[]⟩, .slice none 0 0] T2)).alloc (.cells #[.int .i64 5, .string ⟨#[97]⟩, .string ⟨#[116]⟩, .int .i64 0, .slice none 0 0, .slice (some ⟨g1, 0, none⟩) 1 1, .slice none 0 0, .slice none 0 0] T3)).alloc o3) = W
  have okS0 : okS (str []) := by unfold okS; decide +kernel
  have okS1 : okS (str [112]) := by unfold okS; decide +kernel
  have okS2 : okS (str [97]) := by unfold okS; decide +kernel
  have okS3 : okS (str [116]) := by unfold okS; decide +kernel
  have okI1 : ∀ x : Int, 0 ≤ x → x ≤ 100 → okI x := fun x h k => by unfold okI; omega
  have r1 : RowsAt W 6 (some ⟨g1, 0, none⟩) 1 1 [[.int .i64 3, .int .i64 1, .string ⟨#[]⟩, .string ⟨#[]⟩, .string ⟨#[]⟩, .slice none 0 0]] := by
    rw [← hW]
    exact ((RowsAt.lit' _ _ 1 hg1 rfl (by simp) rfl (by unfold maxLen; omega)).below ((Below.refl _ _).alloc (Nat.le_refl _) _)).below ((Below.refl _ _).alloc (Nat.le_refl _) _)
  have r2 : RowsAt W 8 (some ⟨g2, 0, none⟩) 1 1 [[.int .i64 5, .string ⟨#[97]⟩, .string ⟨#[116]⟩, .int .i64 0, .slice none 0 0, .slice (some ⟨g1, 0, none⟩) 1 1, .slice none 0 0, .slice none 0 0]] := by
    rw [← hW]
    exact (RowsAt.lit' _ _ 1 hg2 rfl (by simp) rfl (by unfold maxLen; omega)).below ((Below.refl _ _).alloc (Nat.le_refl _) _)
  have hz1 : g1 < W.heap.size := by rw [← hW, hg1]; simp; omega
  have hz2 : g2 < W.heap.size := by rw [← hW, hg2]; simp
  have hE : ExsAt (fun k => k < W.heap.size) 1 W (some ⟨g1, 0, none⟩) 1 1 [exE] := by
    refine ⟨_, r1, fun a ha _ => by cases ha; exact hz1, rfl, fun k r x hr hx => ?_⟩
    cases k with
    | zero =>
      simp at hr hx
      subst hr hx
      exact ⟨rfl, okI1 3 (by omega) (by omega), okI1 1 (by omega) (by omega), okS0, okS0, okS0, none, 0, 0, rfl, LsAt.nil_ _ _ _ _⟩
    | succ k => simp at hr
  have hS : StsAt (fun k => k < W.heap.size) 2 W (some ⟨g2, 0, none⟩) 1 1 [exS] := by
    refine ⟨_, r2, fun a ha _ => by cases ha; exact hz2, rfl, fun k r x hr hx => ?_⟩
    cases k with
    | zero =>
      simp at hr hx
      subst hr hx
      exact ⟨rfl, okI1 5 (by omega) (by omega), okI1 0 (by omega) (by omega), okS2, okS3, none, 0, 0, _, 1, 1, none, 0, 0, none, 0, 0, rfl, LsAt.nil_ _ _ _ _, hE, LsAt.nil_ _ _ _ _, LsAt.nil_ _ _ _ _⟩
    | succ k => simp at hr
  exact ⟨okS1, okS0, okS0, okI1 1 (by omega) (by omega), none, 0, 0, _, 1, 1, rfl, LsAt.nil_ _ _ _ _, hS⟩

set_option maxRecDepth 100000 in
set_option maxHeartbeats 2000000 in
theorem awake_any (w : World) : Calls Try.prog 6 #[] w fun x w' => x = .returned (.bool true) ∧ Below w.heap.size w w' := by
  obtain ⟨w4, Hw4⟩ : ∃ w4, Hid (w4 = (((w.alloc (.cells #[.int .i64 3, .int .i64 1, .string { data := #[] }, .string { data := #[] }, .string { data := #[] }, .slice none 0 0] 50)).alloc (.cells #[.int .i64 3, .int .i64 1, .string { data := #[] }, .string { data := #[] }, .string { data := #[] }, .slice none 0 0] 50)).alloc (.cells #[.int .i64 5, .string { data := #[97] }, .string { data := #[116] }, .int .i64 0, .slice none 0 0, .slice (some ⟨w.heap.size + 1, 0, none⟩) 1 1, .slice none 0 0, .slice none 0 0] 52)).alloc (.cells #[.string { data := #[112] }, .string { data := #[] }, .string { data := #[] }, .int .i64 1, .slice none 0 0, .slice (some ⟨w.heap.size + 1 + 1, 0, none⟩) 1 1] 34)) := ⟨_, rfl⟩
  have hP : PrAt (fun k => k < w4.heap.size) 2 w4 (#[.string { data := #[112] }, .string { data := #[] }, .string { data := #[] }, .int .i64 1, .slice none 0 0, .slice (some ⟨w.heap.size + 1 + 1, 0, none⟩) 1 1] : Array Value).toList exP := by
    rw [Hw4.out]
    exact ex_at _ _ _ _ (by simp) (by simp)
  have hb4 : Below w.heap.size w w4 := by rw [Hw4.out]; exact ((((Below.refl _ _).alloc (Nat.le_refl _) _).alloc (by simp) _).alloc (by simp; omega) _).alloc (by simp; omega) _
  have hx4 : IsBlk w4 (w.heap.size + 1 + 1 + 1) 34 #[.string { data := #[112] }, .string { data := #[] }, .string { data := #[] }, .int .i64 1, .slice none 0 0, .slice (some ⟨w.heap.size + 1 + 1, 0, none⟩) 1 1] := by rw [Hw4.out]; exact laid_at (by simp) _ _
  have HP := Lib.hid hP
  have Hp := Lib.hid (fun W (hW : Below w4.heap.size w4 W) => prBox (hx4.as_was (hW.block _ hx4.lt)))
  have hR : Below w4.heap.size w4 w4 := Below.refl _ _
  obtain ⟨p0, p1, p2, p3, p4, p5, pl⟩ := Hp.out _ hR
  have Hsz := Lib.hid (size_ex _ w4 hP)
  have Hri := Lib.hid (fun W (hW : Below w4.heap.size w4 W) => right_ex _ _ W (hP.below hW))
  have Hre := Lib.hid (fun W (hW : Below w4.heap.size w4 W) => reads_ex _ _ W (hP.below hW) (fun k hk => Nat.lt_of_lt_of_le hk hW.size))
  have Hwr := Lib.hid (fun W (hW : Below w4.heap.size w4 W) => writes_ex _ _ W (hP.below hW) (fun k hk => Nat.lt_of_lt_of_le hk hW.size))
  clear hP hx4
  go_enter Try.func6, Try.ntmps6
  go_upto_region 3 with (fail)
  rw [← Hw4.out]
  go_wp2_with (first | (go_at_call 12; refine Hsz.out.mono ?_; rintro x w5 ⟨rfl, hb5⟩; replace hR := hR.trans (hb5.mono (by first | exact hR.size | (have := hR.size; simp; omega))); obtain ⟨p0, p1, p2, p3, p4, p5, pl⟩ := Hp.out _ hR) | (go_at_call 16; refine (Hri.out _ hR).mono ?_; rintro x w6 ⟨rfl, hb6⟩; replace hR := hR.trans (hb6.mono (by first | exact hR.size | (have := hR.size; simp; omega))); obtain ⟨p0, p1, p2, p3, p4, p5, pl⟩ := Hp.out _ hR) | (go_at_call 13; refine (Hre.out _ hR).mono ?_; rintro x w7 ⟨A7, c7, rfl, hn7, hb7⟩; replace hR := hR.trans (hb7.mono (by first | exact hR.size | (have := hR.size; simp; omega))); obtain ⟨p0, p1, p2, p3, p4, p5, pl⟩ := Hp.out _ hR; have Hsame := Lib.hid (sameRef_any _ _ _ _ _ _ _ _ _ (hn7.below ((Below.refl _ _).alloc (Nat.le_refl _) (.cells #[.string { data := #[116] }] 9))) (names_one 9 (str [116]) rfl)); have hbs : Below w4.heap.size w4 (w7.alloc (.cells #[.string { data := #[116] }] 9)) := hR.alloc hR.size _) | (go_at_call 18; refine (Hwr.out _ hR).mono ?_; rintro x w9 ⟨A9, c9, rfl, hn9, hb9⟩; replace hR := hR.trans (hb9.mono (by first | exact hR.size | (have := hR.size; simp; omega))); obtain ⟨p0, p1, p2, p3, p4, p5, pl⟩ := Hp.out _ hR; have Hsame2 := Lib.hid (sameRef_any _ _ _ _ _ _ _ _ _ (hn9.below ((Below.refl _ _).alloc (Nat.le_refl _) (.cells #[.string { data := #[116] }] 9))) (names_one 9 (str [116]) rfl)); have hbs2 : Below w4.heap.size w4 (w9.alloc (.cells #[.string { data := #[116] }] 9)) := hR.alloc hR.size _) | (go_at_call 14; with_reducible refine Hsame2.out.mono ?_; rintro x w10 ⟨rfl, hb10⟩; have hR10 := hbs2.trans (hb10.mono hbs2.size)) | (go_at_call 14; with_reducible refine Hsame.out.mono ?_; rintro x w8 ⟨rfl, hb8⟩; replace hR := hbs.trans (hb8.mono hbs.size); obtain ⟨p0, p1, p2, p3, p4, p5, pl⟩ := Hp.out _ hR))
  go_ret
  exact ⟨ret_bool (by simp), hb4.trans (hR10.mono hb4.size)⟩
end Go.Proofs.Ytgihhkfppnhdpaa
