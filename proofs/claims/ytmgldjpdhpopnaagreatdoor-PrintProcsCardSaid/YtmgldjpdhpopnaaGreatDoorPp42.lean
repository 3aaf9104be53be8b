/- Parts of this proof, one behind the other: PrsJ. -/
import Derived.Test.YtmgldjpdhpopnaaGreatDoorPp41
import Derived.Deep.RegionHeld3
set_option maxRecDepth 1000000
set_option maxHeartbeats 40000000
namespace Go.Proofs.YtmgldjpdhpopnaaGreatDoor
open Go.RowKit Go.Afx
theorem rst_1 (name src : ByteArray) (n : Int) (Ac Ab Al : Option Addr) (nc cc nb cb nl cl : Nat) (B : ByteArray) (Ae : Option Addr) (ne ce : Nat) (S1 : ByteArray) (w : World) (hD : RTx w 137 #[.slice Ae ne ce] S1) (hl1 : S1.size ≤ 1000000000) (hn : name.size ≤ 1000000) :
  Calls Tryz.prog 85 #[.agg #[.int .i64 1, .string name, .string src, .int .i64 n, .slice Ac nc cc, .slice Ae ne ce, .slice Ab nb cb, .slice Al nl cl], .string B] w fun e' w' => e' = .returned (.string ⟨([108, 101, 116, 32] ++ name.data.toList ++ [32, 61, 32] ++ S1.data.toList ++ [59]).toArray⟩) ∧ Below w.heap.size w w' := by
 have n0 : ¬ 9223372036854775807 < 4 + name.size := by omega
 have n1 : ¬ 9223372036854775807 < 4 + name.size + 3 := by omega
 have n2 : ¬ 9223372036854775807 < 4 + name.size + 3 + S1.size := by omega
 have n3 : ¬ 9223372036854775807 < 4 + name.size + 3 + S1.size + 1 := by omega
 have HD := Lhd hD
 obtain ⟨w1, Hw1⟩ : ∃ w1, Hid (w1 = w.alloc (.cells #[.int .i64 1, .string name, .string src, .int .i64 n, .slice Ac nc cc, .slice Ae ne ce, .slice Ab nb cb, .slice Al nl cl] 71)) := ⟨_, rfl⟩
 have hb1 : Below w.heap.size w w1 := by rw [Hw1.out]; exact (Below.refl _ _).alloc (Nat.le_refl _) _
 have hk1 : IsBlk w1 w.heap.size 71 #[.int .i64 1, .string name, .string src, .int .i64 n, .slice Ac nc cc, .slice Ae ne ce, .slice Ab nb cb, .slice Al nl cl] := by rw [Hw1.out]; exact IsBlk.laid _ _ _
 have Hx := Lhd (fun W (hW : Below w1.heap.size w1 W) => box8 (hk1.as_was (hW.block _ hk1.lt)))
 have Hb1 := Lhd hb1
 have hrf : Below w1.heap.size w1 w1 := Below.refl _ _
 obtain ⟨x0, x1, x2, x3, x4, x5, x6, x7, xl⟩ := Hx.out _ hrf
 clear hb1 hk1 hD hl1 hn
 go_enter Tryz.func85, Tryz.ntmps85
 go_upto_region 1 with (fail)
 rw [← Hw1.out]
 have HS := Lhd (fun W (hW : Below w1.heap.size w1 W) => (show W.cell? ⟨w.heap.size, 0, none⟩ = some (.int .i64 1) ∧ W.cell? ⟨w.heap.size, 1, none⟩ = some (.string name) ∧ W.cell? ⟨w.heap.size, 2, none⟩ = some (.string src) ∧ W.cell? ⟨w.heap.size, 3, none⟩ = some (.int .i64 n) ∧ W.cell? ⟨w.heap.size, 4, none⟩ = some (.slice Ac nc cc) ∧ W.cell? ⟨w.heap.size, 5, none⟩ = some (.slice Ae ne ce) ∧ W.cell? ⟨w.heap.size, 6, none⟩ = some (.slice Ab nb cb) ∧ W.cell? ⟨w.heap.size, 7, none⟩ = some (.slice Al nl cl) ∧ w.heap.size < W.heap.size from Hx.out W hW))
 have HR := Lhd (HD.out.at_ Hb1.out)
 go_upto_region 3 with (fail)
 go_region_held3 (fun W => W.cell? ⟨w.heap.size, 0, none⟩ = some (.int .i64 1) ∧ W.cell? ⟨w.heap.size, 1, none⟩ = some (.string name) ∧ W.cell? ⟨w.heap.size, 2, none⟩ = some (.string src) ∧ W.cell? ⟨w.heap.size, 3, none⟩ = some (.int .i64 n) ∧ W.cell? ⟨w.heap.size, 4, none⟩ = some (.slice Ac nc cc) ∧ W.cell? ⟨w.heap.size, 5, none⟩ = some (.slice Ae ne ce) ∧ W.cell? ⟨w.heap.size, 6, none⟩ = some (.slice Ab nb cb) ∧ W.cell? ⟨w.heap.size, 7, none⟩ = some (.slice Al nl cl) ∧ w.heap.size < W.heap.size) (first | assumption | exact HS.out _ (by assumption) | exact HS.out _ (Below.drew (by assumption)) | ((repeat' apply And.intro) <;> first | assumption | (go_simp; done))) (first | (go_at_call 137; with_reducible refine (HR.out _ (by first | assumption | exact Below.drew (by assumption))).mono ?_; rintro x wa ⟨rfl, hbwa⟩))
 have HB := Lhd hbwa
 clear hbwa
 all_goals
  go_wp2
  go_ret
  exact ⟨ret_str (by simp [ByteArray.data_append]), Hb1.out.trans (HB.out.mono Hb1.out.size)⟩
theorem rst_2 (name src : ByteArray) (n : Int) (Ac Ab Al : Option Addr) (nc cc nb cb nl cl : Nat) (B : ByteArray) (Ae : Option Addr) (ne ce : Nat) (S1 : ByteArray) (w : World) (hD : RTx w 137 #[.slice Ae ne ce] S1) (hl1 : S1.size ≤ 1000000000) (hn : name.size ≤ 1000000) :
  Calls Tryz.prog 85 #[.agg #[.int .i64 2, .string name, .string src, .int .i64 n, .slice Ac nc cc, .slice Ae ne ce, .slice Ab nb cb, .slice Al nl cl], .string B] w fun e' w' => e' = .returned (.string ⟨([115, 101, 116, 32] ++ name.data.toList ++ [32, 61, 32] ++ S1.data.toList ++ [59]).toArray⟩) ∧ Below w.heap.size w w' := by
 have n0 : ¬ 9223372036854775807 < 4 + name.size := by omega
 have n1 : ¬ 9223372036854775807 < 4 + name.size + 3 := by omega
 have n2 : ¬ 9223372036854775807 < 4 + name.size + 3 + S1.size := by omega
 have n3 : ¬ 9223372036854775807 < 4 + name.size + 3 + S1.size + 1 := by omega
 have HD := Lhd hD
 obtain ⟨w1, Hw1⟩ : ∃ w1, Hid (w1 = w.alloc (.cells #[.int .i64 2, .string name, .string src, .int .i64 n, .slice Ac nc cc, .slice Ae ne ce, .slice Ab nb cb, .slice Al nl cl] 71)) := ⟨_, rfl⟩
 have hb1 : Below w.heap.size w w1 := by rw [Hw1.out]; exact (Below.refl _ _).alloc (Nat.le_refl _) _
 have hk1 : IsBlk w1 w.heap.size 71 #[.int .i64 2, .string name, .string src, .int .i64 n, .slice Ac nc cc, .slice Ae ne ce, .slice Ab nb cb, .slice Al nl cl] := by rw [Hw1.out]; exact IsBlk.laid _ _ _
 have Hx := Lhd (fun W (hW : Below w1.heap.size w1 W) => box8 (hk1.as_was (hW.block _ hk1.lt)))
 have Hb1 := Lhd hb1
 have hrf : Below w1.heap.size w1 w1 := Below.refl _ _
 obtain ⟨x0, x1, x2, x3, x4, x5, x6, x7, xl⟩ := Hx.out _ hrf
 clear hb1 hk1 hD hl1 hn
 go_enter Tryz.func85, Tryz.ntmps85
 go_upto_region 1 with (fail)
 rw [← Hw1.out]
 have HS := Lhd (fun W (hW : Below w1.heap.size w1 W) => (show W.cell? ⟨w.heap.size, 0, none⟩ = some (.int .i64 2) ∧ W.cell? ⟨w.heap.size, 1, none⟩ = some (.string name) ∧ W.cell? ⟨w.heap.size, 2, none⟩ = some (.string src) ∧ W.cell? ⟨w.heap.size, 3, none⟩ = some (.int .i64 n) ∧ W.cell? ⟨w.heap.size, 4, none⟩ = some (.slice Ac nc cc) ∧ W.cell? ⟨w.heap.size, 5, none⟩ = some (.slice Ae ne ce) ∧ W.cell? ⟨w.heap.size, 6, none⟩ = some (.slice Ab nb cb) ∧ W.cell? ⟨w.heap.size, 7, none⟩ = some (.slice Al nl cl) ∧ w.heap.size < W.heap.size from Hx.out W hW))
 have HR := Lhd (HD.out.at_ Hb1.out)
 go_upto_region 5 with (fail)
 go_region_held3 (fun W => W.cell? ⟨w.heap.size, 0, none⟩ = some (.int .i64 2) ∧ W.cell? ⟨w.heap.size, 1, none⟩ = some (.string name) ∧ W.cell? ⟨w.heap.size, 2, none⟩ = some (.string src) ∧ W.cell? ⟨w.heap.size, 3, none⟩ = some (.int .i64 n) ∧ W.cell? ⟨w.heap.size, 4, none⟩ = some (.slice Ac nc cc) ∧ W.cell? ⟨w.heap.size, 5, none⟩ = some (.slice Ae ne ce) ∧ W.cell? ⟨w.heap.size, 6, none⟩ = some (.slice Ab nb cb) ∧ W.cell? ⟨w.heap.size, 7, none⟩ = some (.slice Al nl cl) ∧ w.heap.size < W.heap.size) (first | assumption | exact HS.out _ (by assumption) | exact HS.out _ (Below.drew (by assumption)) | ((repeat' apply And.intro) <;> first | assumption | (go_simp; done))) (first | (go_at_call 137; with_reducible refine (HR.out _ (by first | assumption | exact Below.drew (by assumption))).mono ?_; rintro x wa ⟨rfl, hbwa⟩))
 have HB := Lhd hbwa
 clear hbwa
 all_goals
  go_wp2
  go_ret
  exact ⟨ret_str (by simp [ByteArray.data_append]), Hb1.out.trans (HB.out.mono Hb1.out.size)⟩
theorem rst_3 (name src : ByteArray) (n : Int) (Ac Ab Al : Option Addr) (nc cc nb cb nl cl : Nat) (B : ByteArray) (Ae : Option Addr) (ne ce : Nat) (S1 : ByteArray) (w : World) (hD : RTx w 137 #[.slice Ae ne ce] S1) (hl1 : S1.size ≤ 1000000000) (hn : src.size ≤ 1000000) :
  Calls Tryz.prog 85 #[.agg #[.int .i64 3, .string name, .string src, .int .i64 n, .slice Ac nc cc, .slice Ae ne ce, .slice Ab nb cb, .slice Al nl cl], .string B] w fun e' w' => e' = .returned (.string ⟨([105, 110, 115, 101, 114, 116, 32] ++ src.data.toList ++ [40] ++ S1.data.toList ++ [41, 59]).toArray⟩) ∧ Below w.heap.size w w' := by
 have n0 : ¬ 9223372036854775807 < 7 + src.size := by omega
 have n1 : ¬ 9223372036854775807 < 7 + src.size + 1 := by omega
 have n2 : ¬ 9223372036854775807 < 7 + src.size + 1 + S1.size := by omega
 have n3 : ¬ 9223372036854775807 < 7 + src.size + 1 + S1.size + 2 := by omega
 have HD := Lhd hD
 obtain ⟨w1, Hw1⟩ : ∃ w1, Hid (w1 = w.alloc (.cells #[.int .i64 3, .string name, .string src, .int .i64 n, .slice Ac nc cc, .slice Ae ne ce, .slice Ab nb cb, .slice Al nl cl] 71)) := ⟨_, rfl⟩
 have hb1 : Below w.heap.size w w1 := by rw [Hw1.out]; exact (Below.refl _ _).alloc (Nat.le_refl _) _
 have hk1 : IsBlk w1 w.heap.size 71 #[.int .i64 3, .string name, .string src, .int .i64 n, .slice Ac nc cc, .slice Ae ne ce, .slice Ab nb cb, .slice Al nl cl] := by rw [Hw1.out]; exact IsBlk.laid _ _ _
 have Hx := Lhd (fun W (hW : Below w1.heap.size w1 W) => box8 (hk1.as_was (hW.block _ hk1.lt)))
 have Hb1 := Lhd hb1
 have hrf : Below w1.heap.size w1 w1 := Below.refl _ _
 obtain ⟨x0, x1, x2, x3, x4, x5, x6, x7, xl⟩ := Hx.out _ hrf
 clear hb1 hk1 hD hl1 hn
 go_enter Tryz.func85, Tryz.ntmps85
 go_upto_region 1 with (fail)
 rw [← Hw1.out]
 have HS := Lhd (fun W (hW : Below w1.heap.size w1 W) => (show W.cell? ⟨w.heap.size, 0, none⟩ = some (.int .i64 3) ∧ W.cell? ⟨w.heap.size, 1, none⟩ = some (.string name) ∧ W.cell? ⟨w.heap.size, 2, none⟩ = some (.string src) ∧ W.cell? ⟨w.heap.size, 3, none⟩ = some (.int .i64 n) ∧ W.cell? ⟨w.heap.size, 4, none⟩ = some (.slice Ac nc cc) ∧ W.cell? ⟨w.heap.size, 5, none⟩ = some (.slice Ae ne ce) ∧ W.cell? ⟨w.heap.size, 6, none⟩ = some (.slice Ab nb cb) ∧ W.cell? ⟨w.heap.size, 7, none⟩ = some (.slice Al nl cl) ∧ w.heap.size < W.heap.size from Hx.out W hW))
 have HR := Lhd (HD.out.at_ Hb1.out)
 go_upto_region 7 with (fail)
 go_region_held3 (fun W => W.cell? ⟨w.heap.size, 0, none⟩ = some (.int .i64 3) ∧ W.cell? ⟨w.heap.size, 1, none⟩ = some (.string name) ∧ W.cell? ⟨w.heap.size, 2, none⟩ = some (.string src) ∧ W.cell? ⟨w.heap.size, 3, none⟩ = some (.int .i64 n) ∧ W.cell? ⟨w.heap.size, 4, none⟩ = some (.slice Ac nc cc) ∧ W.cell? ⟨w.heap.size, 5, none⟩ = some (.slice Ae ne ce) ∧ W.cell? ⟨w.heap.size, 6, none⟩ = some (.slice Ab nb cb) ∧ W.cell? ⟨w.heap.size, 7, none⟩ = some (.slice Al nl cl) ∧ w.heap.size < W.heap.size) (first | assumption | exact HS.out _ (by assumption) | exact HS.out _ (Below.drew (by assumption)) | ((repeat' apply And.intro) <;> first | assumption | (go_simp; done))) (first | (go_at_call 137; with_reducible refine (HR.out _ (by first | assumption | exact Below.drew (by assumption))).mono ?_; rintro x wa ⟨rfl, hbwa⟩))
 have HB := Lhd hbwa
 clear hbwa
 all_goals
  go_wp2
  go_ret
  exact ⟨ret_str (by simp [ByteArray.data_append]), Hb1.out.trans (HB.out.mono Hb1.out.size)⟩
theorem rst_8 (name src : ByteArray) (n : Int) (Ac Ab Al : Option Addr) (nc cc nb cb nl cl : Nat) (B : ByteArray) (Ae : Option Addr) (ne ce : Nat) (S1 : ByteArray) (w : World) (hD : RTx w 137 #[.slice Ae ne ce] S1) (hl1 : S1.size ≤ 1000000000) (hn : src.size ≤ 1000000) :
  Calls Tryz.prog 85 #[.agg #[.int .i64 8, .string name, .string src, .int .i64 n, .slice Ac nc cc, .slice Ae ne ce, .slice Ab nb cb, .slice Al nl cl], .string B] w fun e' w' => e' = .returned (.string ⟨([101, 109, 105, 116, 32] ++ src.data.toList ++ [40] ++ S1.data.toList ++ [41, 59]).toArray⟩) ∧ Below w.heap.size w w' := by
 have n0 : ¬ 9223372036854775807 < 5 + src.size := by omega
 have n1 : ¬ 9223372036854775807 < 5 + src.size + 1 := by omega
 have n2 : ¬ 9223372036854775807 < 5 + src.size + 1 + S1.size := by omega
 have n3 : ¬ 9223372036854775807 < 5 + src.size + 1 + S1.size + 2 := by omega
 have HD := Lhd hD
 obtain ⟨w1, Hw1⟩ : ∃ w1, Hid (w1 = w.alloc (.cells #[.int .i64 8, .string name, .string src, .int .i64 n, .slice Ac nc cc, .slice Ae ne ce, .slice Ab nb cb, .slice Al nl cl] 71)) := ⟨_, rfl⟩
 have hb1 : Below w.heap.size w w1 := by rw [Hw1.out]; exact (Below.refl _ _).alloc (Nat.le_refl _) _
 have hk1 : IsBlk w1 w.heap.size 71 #[.int .i64 8, .string name, .string src, .int .i64 n, .slice Ac nc cc, .slice Ae ne ce, .slice Ab nb cb, .slice Al nl cl] := by rw [Hw1.out]; exact IsBlk.laid _ _ _
 have Hx := Lhd (fun W (hW : Below w1.heap.size w1 W) => box8 (hk1.as_was (hW.block _ hk1.lt)))
 have Hb1 := Lhd hb1
 have hrf : Below w1.heap.size w1 w1 := Below.refl _ _
 obtain ⟨x0, x1, x2, x3, x4, x5, x6, x7, xl⟩ := Hx.out _ hrf
 clear hb1 hk1 hD hl1 hn
 go_enter Tryz.func85, Tryz.ntmps85
 go_upto_region 1 with (fail)
 rw [← Hw1.out]
 have HS := Lhd (fun W (hW : Below w1.heap.size w1 W) => (show W.cell? ⟨w.heap.size, 0, none⟩ = some (.int .i64 8) ∧ W.cell? ⟨w.heap.size, 1, none⟩ = some (.string name) ∧ W.cell? ⟨w.heap.size, 2, none⟩ = some (.string src) ∧ W.cell? ⟨w.heap.size, 3, none⟩ = some (.int .i64 n) ∧ W.cell? ⟨w.heap.size, 4, none⟩ = some (.slice Ac nc cc) ∧ W.cell? ⟨w.heap.size, 5, none⟩ = some (.slice Ae ne ce) ∧ W.cell? ⟨w.heap.size, 6, none⟩ = some (.slice Ab nb cb) ∧ W.cell? ⟨w.heap.size, 7, none⟩ = some (.slice Al nl cl) ∧ w.heap.size < W.heap.size from Hx.out W hW))
 have HR := Lhd (HD.out.at_ Hb1.out)
 go_upto_region 9 with (fail)
 go_region_held3 (fun W => W.cell? ⟨w.heap.size, 0, none⟩ = some (.int .i64 8) ∧ W.cell? ⟨w.heap.size, 1, none⟩ = some (.string name) ∧ W.cell? ⟨w.heap.size, 2, none⟩ = some (.string src) ∧ W.cell? ⟨w.heap.size, 3, none⟩ = some (.int .i64 n) ∧ W.cell? ⟨w.heap.size, 4, none⟩ = some (.slice Ac nc cc) ∧ W.cell? ⟨w.heap.size, 5, none⟩ = some (.slice Ae ne ce) ∧ W.cell? ⟨w.heap.size, 6, none⟩ = some (.slice Ab nb cb) ∧ W.cell? ⟨w.heap.size, 7, none⟩ = some (.slice Al nl cl) ∧ w.heap.size < W.heap.size) (first | assumption | exact HS.out _ (by assumption) | exact HS.out _ (Below.drew (by assumption)) | ((repeat' apply And.intro) <;> first | assumption | (go_simp; done))) (first | (go_at_call 137; with_reducible refine (HR.out _ (by first | assumption | exact Below.drew (by assumption))).mono ?_; rintro x wa ⟨rfl, hbwa⟩))
 have HB := Lhd hbwa
 clear hbwa
 all_goals
  go_wp2
  go_ret
  exact ⟨ret_str (by simp [ByteArray.data_append]), Hb1.out.trans (HB.out.mono Hb1.out.size)⟩
theorem rst_9 (name src : ByteArray) (n : Int) (Ac Ab Al : Option Addr) (nc cc nb cb nl cl : Nat) (B : ByteArray) (Ae : Option Addr) (ne ce : Nat) (S1 : ByteArray) (w : World) (hD : RTx w 137 #[.slice Ae ne ce] S1) (hl1 : S1.size ≤ 1000000000) :
  Calls Tryz.prog 85 #[.agg #[.int .i64 9, .string name, .string src, .int .i64 n, .slice Ac nc cc, .slice Ae ne ce, .slice Ab nb cb, .slice Al nl cl], .string B] w fun e' w' => e' = .returned (.string ⟨([97, 98, 111, 114, 116, 32] ++ S1.data.toList ++ [59]).toArray⟩) ∧ Below w.heap.size w w' := by
 have n0 : ¬ 9223372036854775807 < 6 + S1.size := by omega
 have n1 : ¬ 9223372036854775807 < 6 + S1.size + 1 := by omega
 have HD := Lhd hD
 obtain ⟨w1, Hw1⟩ : ∃ w1, Hid (w1 = w.alloc (.cells #[.int .i64 9, .string name, .string src, .int .i64 n, .slice Ac nc cc, .slice Ae ne ce, .slice Ab nb cb, .slice Al nl cl] 71)) := ⟨_, rfl⟩
 have hb1 : Below w.heap.size w w1 := by rw [Hw1.out]; exact (Below.refl _ _).alloc (Nat.le_refl _) _
 have hk1 : IsBlk w1 w.heap.size 71 #[.int .i64 9, .string name, .string src, .int .i64 n, .slice Ac nc cc, .slice Ae ne ce, .slice Ab nb cb, .slice Al nl cl] := by rw [Hw1.out]; exact IsBlk.laid _ _ _
 have Hx := Lhd (fun W (hW : Below w1.heap.size w1 W) => box8 (hk1.as_was (hW.block _ hk1.lt)))
 have Hb1 := Lhd hb1
 have hrf : Below w1.heap.size w1 w1 := Below.refl _ _
 obtain ⟨x0, x1, x2, x3, x4, x5, x6, x7, xl⟩ := Hx.out _ hrf
 clear hb1 hk1 hD hl1
 go_enter Tryz.func85, Tryz.ntmps85
 go_upto_region 1 with (fail)
 rw [← Hw1.out]
 have HS := Lhd (fun W (hW : Below w1.heap.size w1 W) => (show W.cell? ⟨w.heap.size, 0, none⟩ = some (.int .i64 9) ∧ W.cell? ⟨w.heap.size, 1, none⟩ = some (.string name) ∧ W.cell? ⟨w.heap.size, 2, none⟩ = some (.string src) ∧ W.cell? ⟨w.heap.size, 3, none⟩ = some (.int .i64 n) ∧ W.cell? ⟨w.heap.size, 4, none⟩ = some (.slice Ac nc cc) ∧ W.cell? ⟨w.heap.size, 5, none⟩ = some (.slice Ae ne ce) ∧ W.cell? ⟨w.heap.size, 6, none⟩ = some (.slice Ab nb cb) ∧ W.cell? ⟨w.heap.size, 7, none⟩ = some (.slice Al nl cl) ∧ w.heap.size < W.heap.size from Hx.out W hW))
 have HR := Lhd (HD.out.at_ Hb1.out)
 go_wp2_with (go_at_call 137; with_reducible refine (HR.out _ hrf).mono ?_; rintro x wa ⟨rfl, hbwa⟩)
 have HB := Lhd hbwa
 clear hbwa
 go_ret
 exact ⟨ret_str (by simp [ByteArray.data_append]), Hb1.out.trans (HB.out.mono Hb1.out.size)⟩
theorem rst_10 (name src : ByteArray) (n : Int) (Ac Ab Al : Option Addr) (nc cc nb cb nl cl : Nat) (B : ByteArray) (Ae : Option Addr) (ne ce : Nat) (S1 : ByteArray) (w : World) (hD : RTx w 137 #[.slice Ae ne ce] S1) (hl1 : S1.size ≤ 1000000000) :
  Calls Tryz.prog 85 #[.agg #[.int .i64 10, .string name, .string src, .int .i64 n, .slice Ac nc cc, .slice Ae ne ce, .slice Ab nb cb, .slice Al nl cl], .string B] w fun e' w' => e' = .returned (.string ⟨([114, 101, 112, 108, 121, 32] ++ S1.data.toList ++ [59]).toArray⟩) ∧ Below w.heap.size w w' := by
 have n0 : ¬ 9223372036854775807 < 6 + S1.size := by omega
 have n1 : ¬ 9223372036854775807 < 6 + S1.size + 1 := by omega
 have HD := Lhd hD
 obtain ⟨w1, Hw1⟩ : ∃ w1, Hid (w1 = w.alloc (.cells #[.int .i64 10, .string name, .string src, .int .i64 n, .slice Ac nc cc, .slice Ae ne ce, .slice Ab nb cb, .slice Al nl cl] 71)) := ⟨_, rfl⟩
 have hb1 : Below w.heap.size w w1 := by rw [Hw1.out]; exact (Below.refl _ _).alloc (Nat.le_refl _) _
 have hk1 : IsBlk w1 w.heap.size 71 #[.int .i64 10, .string name, .string src, .int .i64 n, .slice Ac nc cc, .slice Ae ne ce, .slice Ab nb cb, .slice Al nl cl] := by rw [Hw1.out]; exact IsBlk.laid _ _ _
 have Hx := Lhd (fun W (hW : Below w1.heap.size w1 W) => box8 (hk1.as_was (hW.block _ hk1.lt)))
 have Hb1 := Lhd hb1
 have hrf : Below w1.heap.size w1 w1 := Below.refl _ _
 obtain ⟨x0, x1, x2, x3, x4, x5, x6, x7, xl⟩ := Hx.out _ hrf
 clear hb1 hk1 hD hl1
 go_enter Tryz.func85, Tryz.ntmps85
 go_upto_region 1 with (fail)
 rw [← Hw1.out]
 have HS := Lhd (fun W (hW : Below w1.heap.size w1 W) => (show W.cell? ⟨w.heap.size, 0, none⟩ = some (.int .i64 10) ∧ W.cell? ⟨w.heap.size, 1, none⟩ = some (.string name) ∧ W.cell? ⟨w.heap.size, 2, none⟩ = some (.string src) ∧ W.cell? ⟨w.heap.size, 3, none⟩ = some (.int .i64 n) ∧ W.cell? ⟨w.heap.size, 4, none⟩ = some (.slice Ac nc cc) ∧ W.cell? ⟨w.heap.size, 5, none⟩ = some (.slice Ae ne ce) ∧ W.cell? ⟨w.heap.size, 6, none⟩ = some (.slice Ab nb cb) ∧ W.cell? ⟨w.heap.size, 7, none⟩ = some (.slice Al nl cl) ∧ w.heap.size < W.heap.size from Hx.out W hW))
 have HR := Lhd (HD.out.at_ Hb1.out)
 go_wp2_with (go_at_call 137; with_reducible refine (HR.out _ hrf).mono ?_; rintro x wa ⟨rfl, hbwa⟩)
 have HB := Lhd hbwa
 clear hbwa
 go_ret
 exact ⟨ret_str (by simp [ByteArray.data_append]), Hb1.out.trans (HB.out.mono Hb1.out.size)⟩
theorem rst_5 (name src : ByteArray) (n : Int) (Ac Ab Al : Option Addr) (nc cc nb cb nl cl : Nat) (B : ByteArray) (b o ce : Nat) (a1 : Ex) (A1 : Option Addr) (m1 c1 : Nat) (S1 : ByteArray) (w : World) (hbl : b < w.heap.size) (hS1 : Six w b o a1 A1 m1 c1) (hD : RTx w 138 #[.string name, .string src, .agg #[.int .i64 a1.op, .int .i64 a1.n, .string a1.s, .string a1.name, .string a1.src, .slice A1 m1 c1]] S1) (hl1 : S1.size ≤ 1000000000) :
  Calls Tryz.prog 85 #[.agg #[.int .i64 5, .string name, .string src, .int .i64 n, .slice Ac nc cc, .slice (some ⟨b, o, none⟩) 1 ce, .slice Ab nb cb, .slice Al nl cl], .string B] w fun e' w' => e' = .returned (.string ⟨([100, 101, 108, 101, 116, 101, 32] ++ S1.data.toList ++ [59]).toArray⟩) ∧ Below w.heap.size w w' := by
 have n0 : ¬ 9223372036854775807 < 7 + S1.size := by omega
 have n1 : ¬ 9223372036854775807 < 7 + S1.size + 1 := by omega
 have HS1 := Lhd (fun W (hW : Below w.heap.size w W) => hS1.later hbl hW)
 have HD := Lhd hD
 obtain ⟨w1, Hw1⟩ : ∃ w1, Hid (w1 = w.alloc (.cells #[.int .i64 5, .string name, .string src, .int .i64 n, .slice Ac nc cc, .slice (some ⟨b, o, none⟩) 1 ce, .slice Ab nb cb, .slice Al nl cl] 71)) := ⟨_, rfl⟩
 have hb1 : Below w.heap.size w w1 := by rw [Hw1.out]; exact (Below.refl _ _).alloc (Nat.le_refl _) _
 have hk1 : IsBlk w1 w.heap.size 71 #[.int .i64 5, .string name, .string src, .int .i64 n, .slice Ac nc cc, .slice (some ⟨b, o, none⟩) 1 ce, .slice Ab nb cb, .slice Al nl cl] := by rw [Hw1.out]; exact IsBlk.laid _ _ _
 have Hx := Lhd (fun W (hW : Below w1.heap.size w1 W) => box8 (hk1.as_was (hW.block _ hk1.lt)))
 have Hb1 := Lhd hb1
 have hrf : Below w1.heap.size w1 w1 := Below.refl _ _
 obtain ⟨x0, x1, x2, x3, x4, x5, x6, x7, xl⟩ := Hx.out _ hrf
 clear hb1 hk1 hD hl1 hbl hS1
 go_enter Tryz.func85, Tryz.ntmps85
 go_upto_region 1 with (fail)
 rw [← Hw1.out]
 have HS := Lhd (fun W (hW : Below w1.heap.size w1 W) => (show W.cell? ⟨w.heap.size, 0, none⟩ = some (.int .i64 5) ∧ W.cell? ⟨w.heap.size, 1, none⟩ = some (.string name) ∧ W.cell? ⟨w.heap.size, 2, none⟩ = some (.string src) ∧ W.cell? ⟨w.heap.size, 3, none⟩ = some (.int .i64 n) ∧ W.cell? ⟨w.heap.size, 4, none⟩ = some (.slice Ac nc cc) ∧ W.cell? ⟨w.heap.size, 5, none⟩ = some (.slice (some ⟨b, o, none⟩) 1 ce) ∧ W.cell? ⟨w.heap.size, 6, none⟩ = some (.slice Ab nb cb) ∧ W.cell? ⟨w.heap.size, 7, none⟩ = some (.slice Al nl cl) ∧ W.cell? ⟨b, o, none⟩ = some (.int .i64 a1.op) ∧ W.cell? ⟨b, o + 1, none⟩ = some (.int .i64 a1.n) ∧ W.cell? ⟨b, o + 2, none⟩ = some (.string a1.s) ∧ W.cell? ⟨b, o + 3, none⟩ = some (.string a1.name) ∧ W.cell? ⟨b, o + 4, none⟩ = some (.string a1.src) ∧ W.cell? ⟨b, o + 5, none⟩ = some (.slice A1 m1 c1) ∧ w.heap.size < W.heap.size ∧ b < W.heap.size from by
  obtain ⟨p0, p1, p2, p3, p4, p5, p6, p7, p8⟩ := Hx.out W hW
  obtain ⟨q0, q1, q2, q3, q4, q5, q6⟩ := HS1.out W (Hb1.out.trans (hW.mono Hb1.out.size))
  exact ⟨p0, p1, p2, p3, p4, p5, p6, p7, q0, q1, q2, q3, q4, q5, p8, q6⟩))
 have HR := Lhd (HD.out.at_ Hb1.out)
 go_upto_region 20 with (fail)
 clear x0 x1 x2 x3 x4 x5 x6 x7 xl
 obtain ⟨x0, x1, x2, x3, x4, x5, x6, x7, z0, z1, z2, z3, z4, z5, xl, zl⟩ := HS.out w1 hrf
 go_region_held3 (fun W => W.cell? ⟨w.heap.size, 0, none⟩ = some (.int .i64 5) ∧ W.cell? ⟨w.heap.size, 1, none⟩ = some (.string name) ∧ W.cell? ⟨w.heap.size, 2, none⟩ = some (.string src) ∧ W.cell? ⟨w.heap.size, 3, none⟩ = some (.int .i64 n) ∧ W.cell? ⟨w.heap.size, 4, none⟩ = some (.slice Ac nc cc) ∧ W.cell? ⟨w.heap.size, 5, none⟩ = some (.slice (some ⟨b, o, none⟩) 1 ce) ∧ W.cell? ⟨w.heap.size, 6, none⟩ = some (.slice Ab nb cb) ∧ W.cell? ⟨w.heap.size, 7, none⟩ = some (.slice Al nl cl) ∧ W.cell? ⟨b, o, none⟩ = some (.int .i64 a1.op) ∧ W.cell? ⟨b, o + 1, none⟩ = some (.int .i64 a1.n) ∧ W.cell? ⟨b, o + 2, none⟩ = some (.string a1.s) ∧ W.cell? ⟨b, o + 3, none⟩ = some (.string a1.name) ∧ W.cell? ⟨b, o + 4, none⟩ = some (.string a1.src) ∧ W.cell? ⟨b, o + 5, none⟩ = some (.slice A1 m1 c1) ∧ w.heap.size < W.heap.size ∧ b < W.heap.size) (first | assumption | exact HS.out _ (by assumption) | exact HS.out _ (Below.drew (by assumption)) | ((repeat' apply And.intro) <;> first | assumption | (go_simp; done))) (first | (go_at_call 138; with_reducible refine (HR.out _ (by first | assumption | exact Below.drew (by assumption))).mono ?_; rintro x wa ⟨rfl, hbwa⟩))
 have HB := Lhd hbwa
 clear hbwa
 all_goals
  go_wp2
  go_ret
  exact ⟨ret_str (by simp [ByteArray.data_append]), Hb1.out.trans (HB.out.mono Hb1.out.size)⟩
theorem rst_6 (name src : ByteArray) (Ac Ab Al : Option Addr) (nc cc nb cb nl cl : Nat) (B : ByteArray) (b o ce : Nat) (a1 : Ex) (A1 : Option Addr) (m1 c1 : Nat) (S1 : ByteArray) (S2 : ByteArray) (w : World) (hbl : b < w.heap.size) (hS1 : Six w b o a1 A1 m1 c1) (hD : RTx w 138 #[.string name, .string src, .agg #[.int .i64 a1.op, .int .i64 a1.n, .string a1.s, .string a1.name, .string a1.src, .slice A1 m1 c1]] S1) (hl1 : S1.size ≤ 1000000000) (hD2 : RTx w 43 #[.slice Ab nb cb, .string B] S2) (hl2 : S2.size ≤ 1000000000) :
  Calls Tryz.prog 85 #[.agg #[.int .i64 6, .string name, .string src, .int .i64 0, .slice Ac nc cc, .slice (some ⟨b, o, none⟩) 1 ce, .slice Ab nb cb, .slice Al nl cl], .string B] w fun e' w' => e' = .returned (.string ⟨([102, 111, 114, 32] ++ S1.data.toList ++ [32] ++ S2.data.toList).toArray⟩) ∧ Below w.heap.size w w' := by
 have n0 : ¬ 9223372036854775807 < 4 + S1.size := by omega
 have n1 : ¬ 9223372036854775807 < 4 + S1.size + 1 := by omega
 have n2 : ¬ 9223372036854775807 < 4 + S1.size + 1 + S2.size := by omega
 have HS1 := Lhd (fun W (hW : Below w.heap.size w W) => hS1.later hbl hW)
 have HD := Lhd hD
 have HD2 := Lhd hD2
 obtain ⟨w1, Hw1⟩ : ∃ w1, Hid (w1 = w.alloc (.cells #[.int .i64 6, .string name, .string src, .int .i64 0, .slice Ac nc cc, .slice (some ⟨b, o, none⟩) 1 ce, .slice Ab nb cb, .slice Al nl cl] 71)) := ⟨_, rfl⟩
 have hb1 : Below w.heap.size w w1 := by rw [Hw1.out]; exact (Below.refl _ _).alloc (Nat.le_refl _) _
 have hk1 : IsBlk w1 w.heap.size 71 #[.int .i64 6, .string name, .string src, .int .i64 0, .slice Ac nc cc, .slice (some ⟨b, o, none⟩) 1 ce, .slice Ab nb cb, .slice Al nl cl] := by rw [Hw1.out]; exact IsBlk.laid _ _ _
 have Hx := Lhd (fun W (hW : Below w1.heap.size w1 W) => box8 (hk1.as_was (hW.block _ hk1.lt)))
 have Hb1 := Lhd hb1
 have hrf : Below w1.heap.size w1 w1 := Below.refl _ _
 obtain ⟨x0, x1, x2, x3, x4, x5, x6, x7, xl⟩ := Hx.out _ hrf
 clear hb1 hk1 hD hl1 hbl hS1 hD2 hl2
 go_enter Tryz.func85, Tryz.ntmps85
 go_upto_region 1 with (fail)
 rw [← Hw1.out]
 have HS := Lhd (fun W (hW : Below w1.heap.size w1 W) => (show W.cell? ⟨w.heap.size, 0, none⟩ = some (.int .i64 6) ∧ W.cell? ⟨w.heap.size, 1, none⟩ = some (.string name) ∧ W.cell? ⟨w.heap.size, 2, none⟩ = some (.string src) ∧ W.cell? ⟨w.heap.size, 3, none⟩ = some (.int .i64 0) ∧ W.cell? ⟨w.heap.size, 4, none⟩ = some (.slice Ac nc cc) ∧ W.cell? ⟨w.heap.size, 5, none⟩ = some (.slice (some ⟨b, o, none⟩) 1 ce) ∧ W.cell? ⟨w.heap.size, 6, none⟩ = some (.slice Ab nb cb) ∧ W.cell? ⟨w.heap.size, 7, none⟩ = some (.slice Al nl cl) ∧ W.cell? ⟨b, o, none⟩ = some (.int .i64 a1.op) ∧ W.cell? ⟨b, o + 1, none⟩ = some (.int .i64 a1.n) ∧ W.cell? ⟨b, o + 2, none⟩ = some (.string a1.s) ∧ W.cell? ⟨b, o + 3, none⟩ = some (.string a1.name) ∧ W.cell? ⟨b, o + 4, none⟩ = some (.string a1.src) ∧ W.cell? ⟨b, o + 5, none⟩ = some (.slice A1 m1 c1) ∧ w.heap.size < W.heap.size ∧ b < W.heap.size from by
  obtain ⟨p0, p1, p2, p3, p4, p5, p6, p7, p8⟩ := Hx.out W hW
  obtain ⟨q0, q1, q2, q3, q4, q5, q6⟩ := HS1.out W (Hb1.out.trans (hW.mono Hb1.out.size))
  exact ⟨p0, p1, p2, p3, p4, p5, p6, p7, q0, q1, q2, q3, q4, q5, p8, q6⟩))
 have HR := Lhd (HD.out.at_ Hb1.out)
 have HR2 := Lhd (HD2.out.at_ Hb1.out)
 go_upto_region 22 with (fail)
 clear x0 x1 x2 x3 x4 x5 x6 x7 xl
 obtain ⟨x0, x1, x2, x3, x4, x5, x6, x7, z0, z1, z2, z3, z4, z5, xl, zl⟩ := HS.out w1 hrf
 go_region_held3 (fun W => W.cell? ⟨w.heap.size, 0, none⟩ = some (.int .i64 6) ∧ W.cell? ⟨w.heap.size, 1, none⟩ = some (.string name) ∧ W.cell? ⟨w.heap.size, 2, none⟩ = some (.string src) ∧ W.cell? ⟨w.heap.size, 3, none⟩ = some (.int .i64 0) ∧ W.cell? ⟨w.heap.size, 4, none⟩ = some (.slice Ac nc cc) ∧ W.cell? ⟨w.heap.size, 5, none⟩ = some (.slice (some ⟨b, o, none⟩) 1 ce) ∧ W.cell? ⟨w.heap.size, 6, none⟩ = some (.slice Ab nb cb) ∧ W.cell? ⟨w.heap.size, 7, none⟩ = some (.slice Al nl cl) ∧ W.cell? ⟨b, o, none⟩ = some (.int .i64 a1.op) ∧ W.cell? ⟨b, o + 1, none⟩ = some (.int .i64 a1.n) ∧ W.cell? ⟨b, o + 2, none⟩ = some (.string a1.s) ∧ W.cell? ⟨b, o + 3, none⟩ = some (.string a1.name) ∧ W.cell? ⟨b, o + 4, none⟩ = some (.string a1.src) ∧ W.cell? ⟨b, o + 5, none⟩ = some (.slice A1 m1 c1) ∧ w.heap.size < W.heap.size ∧ b < W.heap.size) (first | assumption | exact HS.out _ (by assumption) | exact HS.out _ (Below.drew (by assumption)) | ((repeat' apply And.intro) <;> first | assumption | (go_simp; done))) (first | (go_at_call 138; with_reducible refine (HR.out _ (by first | assumption | exact Below.drew (by assumption))).mono ?_; rintro x wa ⟨rfl, hbwa⟩))
 clear x0 x1 x2 x3 x4 x5 x6 x7 z0 z1 z2 z3 z4 z5 xl zl
 have HBa := Lhd hbwa
 clear hbwa
 all_goals
  obtain ⟨x0, x1, x2, x3, x4, x5, x6, x7, xl⟩ := Hx.out _ HBa.out
  go_wp2_with (go_at_call 43; refine (HR2.out _ HBa.out).mono ?_; rintro x wc ⟨rfl, hbc⟩)
  have HBc := Lhd hbc
  clear hbc
  go_ret
  exact ⟨ret_str (by simp [ByteArray.data_append]), Hb1.out.trans (HBc.out.mono Hb1.out.size)⟩
theorem rst_6l (name src : ByteArray) (n : Int) (Ac Ab Al : Option Addr) (nc cc nb cb nl cl : Nat) (B : ByteArray) (b o ce : Nat) (a1 : Ex) (A1 : Option Addr) (m1 c1 : Nat) (S1 : ByteArray) (S2 : ByteArray) (N : ByteArray) (w : World) (hbl : b < w.heap.size) (hS1 : Six w b o a1 A1 m1 c1) (hD : RTx w 138 #[.string name, .string src, .agg #[.int .i64 a1.op, .int .i64 a1.n, .string a1.s, .string a1.name, .string a1.src, .slice A1 m1 c1]] S1) (hl1 : S1.size ≤ 1000000000) (hD2 : RTx w 43 #[.slice Ab nb cb, .string B] S2) (hl2 : S2.size ≤ 1000000000) (hn : 0 < n) (hD3 : ∀ W, Calls Tryz.prog 42 #[.int .i64 n] W fun e w2 => e = .returned (.string N) ∧ Below W.heap.size W w2) (hl3 : N.size ≤ 100) :
  Calls Tryz.prog 85 #[.agg #[.int .i64 6, .string name, .string src, .int .i64 n, .slice Ac nc cc, .slice (some ⟨b, o, none⟩) 1 ce, .slice Ab nb cb, .slice Al nl cl], .string B] w fun e' w' => e' = .returned (.string ⟨([102, 111, 114, 32] ++ S1.data.toList ++ ([32, 108, 105, 109, 105, 116, 32] ++ N.data.toList) ++ [32] ++ S2.data.toList).toArray⟩) ∧ Below w.heap.size w w' := by
 have n0 : ¬ 9223372036854775807 < 4 + S1.size := by omega
 have n1 : ¬ 9223372036854775807 < 4 + S1.size + 7 := by omega
 have n2 : ¬ 9223372036854775807 < 4 + S1.size + 7 + N.size := by omega
 have n3 : ¬ 9223372036854775807 < 4 + S1.size + 7 + N.size + 1 := by omega
 have n4 : ¬ 9223372036854775807 < 4 + S1.size + 7 + N.size + 1 + S2.size := by omega
 have HS1 := Lhd (fun W (hW : Below w.heap.size w W) => hS1.later hbl hW)
 have HD := Lhd hD
 have HD2 := Lhd hD2
 have HD3 := Lhd hD3
 obtain ⟨w1, Hw1⟩ : ∃ w1, Hid (w1 = w.alloc (.cells #[.int .i64 6, .string name, .string src, .int .i64 n, .slice Ac nc cc, .slice (some ⟨b, o, none⟩) 1 ce, .slice Ab nb cb, .slice Al nl cl] 71)) := ⟨_, rfl⟩
 have hb1 : Below w.heap.size w w1 := by rw [Hw1.out]; exact (Below.refl _ _).alloc (Nat.le_refl _) _
 have hk1 : IsBlk w1 w.heap.size 71 #[.int .i64 6, .string name, .string src, .int .i64 n, .slice Ac nc cc, .slice (some ⟨b, o, none⟩) 1 ce, .slice Ab nb cb, .slice Al nl cl] := by rw [Hw1.out]; exact IsBlk.laid _ _ _
 have Hx := Lhd (fun W (hW : Below w1.heap.size w1 W) => box8 (hk1.as_was (hW.block _ hk1.lt)))
 have Hb1 := Lhd hb1
 have hrf : Below w1.heap.size w1 w1 := Below.refl _ _
 obtain ⟨x0, x1, x2, x3, x4, x5, x6, x7, xl⟩ := Hx.out _ hrf
 clear hb1 hk1 hD hl1 hbl hS1 hD2 hl2 hD3 hl3
 go_enter Tryz.func85, Tryz.ntmps85
 go_upto_region 1 with (fail)
 rw [← Hw1.out]
 have HS := Lhd (fun W (hW : Below w1.heap.size w1 W) => (show W.cell? ⟨w.heap.size, 0, none⟩ = some (.int .i64 6) ∧ W.cell? ⟨w.heap.size, 1, none⟩ = some (.string name) ∧ W.cell? ⟨w.heap.size, 2, none⟩ = some (.string src) ∧ W.cell? ⟨w.heap.size, 3, none⟩ = some (.int .i64 n) ∧ W.cell? ⟨w.heap.size, 4, none⟩ = some (.slice Ac nc cc) ∧ W.cell? ⟨w.heap.size, 5, none⟩ = some (.slice (some ⟨b, o, none⟩) 1 ce) ∧ W.cell? ⟨w.heap.size, 6, none⟩ = some (.slice Ab nb cb) ∧ W.cell? ⟨w.heap.size, 7, none⟩ = some (.slice Al nl cl) ∧ W.cell? ⟨b, o, none⟩ = some (.int .i64 a1.op) ∧ W.cell? ⟨b, o + 1, none⟩ = some (.int .i64 a1.n) ∧ W.cell? ⟨b, o + 2, none⟩ = some (.string a1.s) ∧ W.cell? ⟨b, o + 3, none⟩ = some (.string a1.name) ∧ W.cell? ⟨b, o + 4, none⟩ = some (.string a1.src) ∧ W.cell? ⟨b, o + 5, none⟩ = some (.slice A1 m1 c1) ∧ w.heap.size < W.heap.size ∧ b < W.heap.size from by
  obtain ⟨p0, p1, p2, p3, p4, p5, p6, p7, p8⟩ := Hx.out W hW
  obtain ⟨q0, q1, q2, q3, q4, q5, q6⟩ := HS1.out W (Hb1.out.trans (hW.mono Hb1.out.size))
  exact ⟨p0, p1, p2, p3, p4, p5, p6, p7, q0, q1, q2, q3, q4, q5, p8, q6⟩))
 have HR := Lhd (HD.out.at_ Hb1.out)
 have HR2 := Lhd (HD2.out.at_ Hb1.out)
 go_upto_region 22 with (fail)
 clear x0 x1 x2 x3 x4 x5 x6 x7 xl
 obtain ⟨x0, x1, x2, x3, x4, x5, x6, x7, z0, z1, z2, z3, z4, z5, xl, zl⟩ := HS.out w1 hrf
 go_region_held3 (fun W => W.cell? ⟨w.heap.size, 0, none⟩ = some (.int .i64 6) ∧ W.cell? ⟨w.heap.size, 1, none⟩ = some (.string name) ∧ W.cell? ⟨w.heap.size, 2, none⟩ = some (.string src) ∧ W.cell? ⟨w.heap.size, 3, none⟩ = some (.int .i64 n) ∧ W.cell? ⟨w.heap.size, 4, none⟩ = some (.slice Ac nc cc) ∧ W.cell? ⟨w.heap.size, 5, none⟩ = some (.slice (some ⟨b, o, none⟩) 1 ce) ∧ W.cell? ⟨w.heap.size, 6, none⟩ = some (.slice Ab nb cb) ∧ W.cell? ⟨w.heap.size, 7, none⟩ = some (.slice Al nl cl) ∧ W.cell? ⟨b, o, none⟩ = some (.int .i64 a1.op) ∧ W.cell? ⟨b, o + 1, none⟩ = some (.int .i64 a1.n) ∧ W.cell? ⟨b, o + 2, none⟩ = some (.string a1.s) ∧ W.cell? ⟨b, o + 3, none⟩ = some (.string a1.name) ∧ W.cell? ⟨b, o + 4, none⟩ = some (.string a1.src) ∧ W.cell? ⟨b, o + 5, none⟩ = some (.slice A1 m1 c1) ∧ w.heap.size < W.heap.size ∧ b < W.heap.size) (first | assumption | exact HS.out _ (by assumption) | exact HS.out _ (Below.drew (by assumption)) | ((repeat' apply And.intro) <;> first | assumption | (go_simp; done))) (first | (go_at_call 138; with_reducible refine (HR.out _ (by first | assumption | exact Below.drew (by assumption))).mono ?_; rintro x wa ⟨rfl, hbwa⟩))
 clear x0 x1 x2 x3 x4 x5 x6 x7 z0 z1 z2 z3 z4 z5 xl zl
 have HBa := Lhd hbwa
 clear hbwa
 all_goals
  obtain ⟨x0, x1, x2, x3, x4, x5, x6, x7, xl⟩ := Hx.out _ HBa.out
  go_wp2_with (go_at_call 42; refine (HD3.out _).mono ?_)
  rintro x wb ⟨rfl, hbb⟩
  have HBb := Lhd (HBa.out.trans (hbb.mono HBa.out.size))
  clear x0 x1 x2 x3 x4 x5 x6 x7 xl hbb
  obtain ⟨x0, x1, x2, x3, x4, x5, x6, x7, xl⟩ := Hx.out _ HBb.out
  go_wp2_with (go_at_call 43; refine (HR2.out _ HBb.out).mono ?_; rintro x wc ⟨rfl, hbc⟩)
  have HBc := Lhd hbc
  clear hbc
  go_ret
  exact ⟨ret_str (by simp [ByteArray.data_append]), Hb1.out.trans (HBc.out.mono Hb1.out.size)⟩
theorem rst_7 (name src : ByteArray) (n : Int) (Ac Ab Al : Option Addr) (nc cc nb cb nl cl : Nat) (B : ByteArray) (b o ce : Nat) (a1 : Ex) (A1 : Option Addr) (m1 c1 : Nat) (S1 : ByteArray) (S2 : ByteArray) (w : World) (hbl : b < w.heap.size) (hS1 : Six w b o a1 A1 m1 c1) (hD : RTx w 139 #[.agg #[.int .i64 a1.op, .int .i64 a1.n, .string a1.s, .string a1.name, .string a1.src, .slice A1 m1 c1]] S1) (hl1 : S1.size ≤ 1000000000) (hD2 : RTx w 43 #[.slice Ab nb cb, .string B] S2) (hl2 : S2.size ≤ 1000000000) (hnl : nl = 0) :
  Calls Tryz.prog 85 #[.agg #[.int .i64 7, .string name, .string src, .int .i64 n, .slice Ac nc cc, .slice (some ⟨b, o, none⟩) 1 ce, .slice Ab nb cb, .slice Al nl cl], .string B] w fun e' w' => e' = .returned (.string ⟨([105, 102, 32] ++ S1.data.toList ++ [32] ++ S2.data.toList).toArray⟩) ∧ Below w.heap.size w w' := by
 subst hnl
 have n0 : ¬ 9223372036854775807 < 3 + S1.size := by omega
 have n1 : ¬ 9223372036854775807 < 3 + S1.size + 1 := by omega
 have n2 : ¬ 9223372036854775807 < 3 + S1.size + 1 + S2.size := by omega
 have HS1 := Lhd (fun W (hW : Below w.heap.size w W) => hS1.later hbl hW)
 have HD := Lhd hD
 have HD2 := Lhd hD2
 obtain ⟨w1, Hw1⟩ : ∃ w1, Hid (w1 = w.alloc (.cells #[.int .i64 7, .string name, .string src, .int .i64 n, .slice Ac nc cc, .slice (some ⟨b, o, none⟩) 1 ce, .slice Ab nb cb, .slice Al 0 cl] 71)) := ⟨_, rfl⟩
 have hb1 : Below w.heap.size w w1 := by rw [Hw1.out]; exact (Below.refl _ _).alloc (Nat.le_refl _) _
 have hk1 : IsBlk w1 w.heap.size 71 #[.int .i64 7, .string name, .string src, .int .i64 n, .slice Ac nc cc, .slice (some ⟨b, o, none⟩) 1 ce, .slice Ab nb cb, .slice Al 0 cl] := by rw [Hw1.out]; exact IsBlk.laid _ _ _
 have Hx := Lhd (fun W (hW : Below w1.heap.size w1 W) => box8 (hk1.as_was (hW.block _ hk1.lt)))
 have Hb1 := Lhd hb1
 have hrf : Below w1.heap.size w1 w1 := Below.refl _ _
 obtain ⟨x0, x1, x2, x3, x4, x5, x6, x7, xl⟩ := Hx.out _ hrf
 clear hb1 hk1 hD hl1 hbl hS1 hD2 hl2
 go_enter Tryz.func85, Tryz.ntmps85
 go_upto_region 1 with (fail)
 rw [← Hw1.out]
 have HS := Lhd (fun W (hW : Below w1.heap.size w1 W) => (show W.cell? ⟨w.heap.size, 0, none⟩ = some (.int .i64 7) ∧ W.cell? ⟨w.heap.size, 1, none⟩ = some (.string name) ∧ W.cell? ⟨w.heap.size, 2, none⟩ = some (.string src) ∧ W.cell? ⟨w.heap.size, 3, none⟩ = some (.int .i64 n) ∧ W.cell? ⟨w.heap.size, 4, none⟩ = some (.slice Ac nc cc) ∧ W.cell? ⟨w.heap.size, 5, none⟩ = some (.slice (some ⟨b, o, none⟩) 1 ce) ∧ W.cell? ⟨w.heap.size, 6, none⟩ = some (.slice Ab nb cb) ∧ W.cell? ⟨w.heap.size, 7, none⟩ = some (.slice Al 0 cl) ∧ W.cell? ⟨b, o, none⟩ = some (.int .i64 a1.op) ∧ W.cell? ⟨b, o + 1, none⟩ = some (.int .i64 a1.n) ∧ W.cell? ⟨b, o + 2, none⟩ = some (.string a1.s) ∧ W.cell? ⟨b, o + 3, none⟩ = some (.string a1.name) ∧ W.cell? ⟨b, o + 4, none⟩ = some (.string a1.src) ∧ W.cell? ⟨b, o + 5, none⟩ = some (.slice A1 m1 c1) ∧ w.heap.size < W.heap.size ∧ b < W.heap.size from by
  obtain ⟨p0, p1, p2, p3, p4, p5, p6, p7, p8⟩ := Hx.out W hW
  obtain ⟨q0, q1, q2, q3, q4, q5, q6⟩ := HS1.out W (Hb1.out.trans (hW.mono Hb1.out.size))
  exact ⟨p0, p1, p2, p3, p4, p5, p6, p7, q0, q1, q2, q3, q4, q5, p8, q6⟩))
 have HR := Lhd (HD.out.at_ Hb1.out)
 have HR2 := Lhd (HD2.out.at_ Hb1.out)
 go_upto_region 27 with (fail)
 clear x0 x1 x2 x3 x4 x5 x6 x7 xl
 obtain ⟨x0, x1, x2, x3, x4, x5, x6, x7, z0, z1, z2, z3, z4, z5, xl, zl⟩ := HS.out w1 hrf
 go_region_held3 (fun W => W.cell? ⟨w.heap.size, 0, none⟩ = some (.int .i64 7) ∧ W.cell? ⟨w.heap.size, 1, none⟩ = some (.string name) ∧ W.cell? ⟨w.heap.size, 2, none⟩ = some (.string src) ∧ W.cell? ⟨w.heap.size, 3, none⟩ = some (.int .i64 n) ∧ W.cell? ⟨w.heap.size, 4, none⟩ = some (.slice Ac nc cc) ∧ W.cell? ⟨w.heap.size, 5, none⟩ = some (.slice (some ⟨b, o, none⟩) 1 ce) ∧ W.cell? ⟨w.heap.size, 6, none⟩ = some (.slice Ab nb cb) ∧ W.cell? ⟨w.heap.size, 7, none⟩ = some (.slice Al 0 cl) ∧ W.cell? ⟨b, o, none⟩ = some (.int .i64 a1.op) ∧ W.cell? ⟨b, o + 1, none⟩ = some (.int .i64 a1.n) ∧ W.cell? ⟨b, o + 2, none⟩ = some (.string a1.s) ∧ W.cell? ⟨b, o + 3, none⟩ = some (.string a1.name) ∧ W.cell? ⟨b, o + 4, none⟩ = some (.string a1.src) ∧ W.cell? ⟨b, o + 5, none⟩ = some (.slice A1 m1 c1) ∧ w.heap.size < W.heap.size ∧ b < W.heap.size) (first | assumption | exact HS.out _ (by assumption) | exact HS.out _ (Below.drew (by assumption)) | ((repeat' apply And.intro) <;> first | assumption | (go_simp; done))) (first | (go_at_call 139; with_reducible refine (HR.out _ (by first | assumption | exact Below.drew (by assumption))).mono ?_; rintro x wa ⟨rfl, hbwa⟩) | (go_at_call 43; with_reducible refine (HR2.out _ (by first | assumption | exact Below.drew (by assumption))).mono ?_; rintro x wb ⟨rfl, hbwb⟩))
 clear x0 x1 x2 x3 x4 x5 x6 x7 z0 z1 z2 z3 z4 z5 xl zl
 ·have HB := Lhd hbwb
  clear hbwa hbwb
  obtain ⟨x0, x1, x2, x3, x4, x5, x6, x7, xl⟩ := Hx.out _ HB.out
  go_wp2
  go_ret
  exact ⟨ret_str (by simp [ByteArray.data_append]), Hb1.out.trans (HB.out.mono Hb1.out.size)⟩
theorem rst_7e (name src : ByteArray) (n : Int) (Ac Ab Al : Option Addr) (nc cc nb cb nl cl : Nat) (B : ByteArray) (b o ce : Nat) (a1 : Ex) (A1 : Option Addr) (m1 c1 : Nat) (S1 : ByteArray) (S2 : ByteArray) (S3 : ByteArray) (w : World) (hbl : b < w.heap.size) (hS1 : Six w b o a1 A1 m1 c1) (hD : RTx w 139 #[.agg #[.int .i64 a1.op, .int .i64 a1.n, .string a1.s, .string a1.name, .string a1.src, .slice A1 m1 c1]] S1) (hl1 : S1.size ≤ 1000000000) (hD2 : RTx w 43 #[.slice Ab nb cb, .string B] S2) (hl2 : S2.size ≤ 1000000000) (hD3 : RTx w 43 #[.slice Al nl cl, .string B] S3) (hl3 : S3.size ≤ 1000000000) (hnl : 0 < nl) :
  Calls Tryz.prog 85 #[.agg #[.int .i64 7, .string name, .string src, .int .i64 n, .slice Ac nc cc, .slice (some ⟨b, o, none⟩) 1 ce, .slice Ab nb cb, .slice Al nl cl], .string B] w fun e' w' => e' = .returned (.string ⟨([105, 102, 32] ++ S1.data.toList ++ [32] ++ S2.data.toList ++ ([32, 101, 108, 115, 101, 32] ++ S3.data.toList)).toArray⟩) ∧ Below w.heap.size w w' := by
 have n0 : ¬ 9223372036854775807 < 3 + S1.size := by omega
 have n1 : ¬ 9223372036854775807 < 3 + S1.size + 1 := by omega
 have n2 : ¬ 9223372036854775807 < 3 + S1.size + 1 + S2.size := by omega
 have n3 : ¬ 9223372036854775807 < 3 + S1.size + 1 + S2.size + 6 := by omega
 have n4 : ¬ 9223372036854775807 < 3 + S1.size + 1 + S2.size + 6 + S3.size := by omega
 have HS1 := Lhd (fun W (hW : Below w.heap.size w W) => hS1.later hbl hW)
 have HD := Lhd hD
 have HD2 := Lhd hD2
 have HD3 := Lhd hD3
 obtain ⟨w1, Hw1⟩ : ∃ w1, Hid (w1 = w.alloc (.cells #[.int .i64 7, .string name, .string src, .int .i64 n, .slice Ac nc cc, .slice (some ⟨b, o, none⟩) 1 ce, .slice Ab nb cb, .slice Al nl cl] 71)) := ⟨_, rfl⟩
 have hb1 : Below w.heap.size w w1 := by rw [Hw1.out]; exact (Below.refl _ _).alloc (Nat.le_refl _) _
 have hk1 : IsBlk w1 w.heap.size 71 #[.int .i64 7, .string name, .string src, .int .i64 n, .slice Ac nc cc, .slice (some ⟨b, o, none⟩) 1 ce, .slice Ab nb cb, .slice Al nl cl] := by rw [Hw1.out]; exact IsBlk.laid _ _ _
 have Hx := Lhd (fun W (hW : Below w1.heap.size w1 W) => box8 (hk1.as_was (hW.block _ hk1.lt)))
 have Hb1 := Lhd hb1
 have hrf : Below w1.heap.size w1 w1 := Below.refl _ _
 obtain ⟨x0, x1, x2, x3, x4, x5, x6, x7, xl⟩ := Hx.out _ hrf
 clear hb1 hk1 hD hl1 hbl hS1 hD2 hl2 hD3 hl3
 go_enter Tryz.func85, Tryz.ntmps85
 go_upto_region 1 with (fail)
 rw [← Hw1.out]
 have HS := Lhd (fun W (hW : Below w1.heap.size w1 W) => (show W.cell? ⟨w.heap.size, 0, none⟩ = some (.int .i64 7) ∧ W.cell? ⟨w.heap.size, 1, none⟩ = some (.string name) ∧ W.cell? ⟨w.heap.size, 2, none⟩ = some (.string src) ∧ W.cell? ⟨w.heap.size, 3, none⟩ = some (.int .i64 n) ∧ W.cell? ⟨w.heap.size, 4, none⟩ = some (.slice Ac nc cc) ∧ W.cell? ⟨w.heap.size, 5, none⟩ = some (.slice (some ⟨b, o, none⟩) 1 ce) ∧ W.cell? ⟨w.heap.size, 6, none⟩ = some (.slice Ab nb cb) ∧ W.cell? ⟨w.heap.size, 7, none⟩ = some (.slice Al nl cl) ∧ W.cell? ⟨b, o, none⟩ = some (.int .i64 a1.op) ∧ W.cell? ⟨b, o + 1, none⟩ = some (.int .i64 a1.n) ∧ W.cell? ⟨b, o + 2, none⟩ = some (.string a1.s) ∧ W.cell? ⟨b, o + 3, none⟩ = some (.string a1.name) ∧ W.cell? ⟨b, o + 4, none⟩ = some (.string a1.src) ∧ W.cell? ⟨b, o + 5, none⟩ = some (.slice A1 m1 c1) ∧ w.heap.size < W.heap.size ∧ b < W.heap.size from by
  obtain ⟨p0, p1, p2, p3, p4, p5, p6, p7, p8⟩ := Hx.out W hW
  obtain ⟨q0, q1, q2, q3, q4, q5, q6⟩ := HS1.out W (Hb1.out.trans (hW.mono Hb1.out.size))
  exact ⟨p0, p1, p2, p3, p4, p5, p6, p7, q0, q1, q2, q3, q4, q5, p8, q6⟩))
 have HR := Lhd (HD.out.at_ Hb1.out)
 have HR2 := Lhd (HD2.out.at_ Hb1.out)
 have HR3 := Lhd (HD3.out.at_ Hb1.out)
 go_upto_region 27 with (fail)
 clear x0 x1 x2 x3 x4 x5 x6 x7 xl
 obtain ⟨x0, x1, x2, x3, x4, x5, x6, x7, z0, z1, z2, z3, z4, z5, xl, zl⟩ := HS.out w1 hrf
 go_region_held3 (fun W => W.cell? ⟨w.heap.size, 0, none⟩ = some (.int .i64 7) ∧ W.cell? ⟨w.heap.size, 1, none⟩ = some (.string name) ∧ W.cell? ⟨w.heap.size, 2, none⟩ = some (.string src) ∧ W.cell? ⟨w.heap.size, 3, none⟩ = some (.int .i64 n) ∧ W.cell? ⟨w.heap.size, 4, none⟩ = some (.slice Ac nc cc) ∧ W.cell? ⟨w.heap.size, 5, none⟩ = some (.slice (some ⟨b, o, none⟩) 1 ce) ∧ W.cell? ⟨w.heap.size, 6, none⟩ = some (.slice Ab nb cb) ∧ W.cell? ⟨w.heap.size, 7, none⟩ = some (.slice Al nl cl) ∧ W.cell? ⟨b, o, none⟩ = some (.int .i64 a1.op) ∧ W.cell? ⟨b, o + 1, none⟩ = some (.int .i64 a1.n) ∧ W.cell? ⟨b, o + 2, none⟩ = some (.string a1.s) ∧ W.cell? ⟨b, o + 3, none⟩ = some (.string a1.name) ∧ W.cell? ⟨b, o + 4, none⟩ = some (.string a1.src) ∧ W.cell? ⟨b, o + 5, none⟩ = some (.slice A1 m1 c1) ∧ w.heap.size < W.heap.size ∧ b < W.heap.size) (first | assumption | exact HS.out _ (by assumption) | exact HS.out _ (Below.drew (by assumption)) | ((repeat' apply And.intro) <;> first | assumption | (go_simp; done))) (first | (go_at_call 139; with_reducible refine (HR.out _ (by first | assumption | exact Below.drew (by assumption))).mono ?_; rintro x wa ⟨rfl, hbwa⟩) | (go_at_call 43; with_reducible refine (HR2.out _ (by first | assumption | exact Below.drew (by assumption))).mono ?_; rintro x wb ⟨rfl, hbwb⟩))
 clear x0 x1 x2 x3 x4 x5 x6 x7 z0 z1 z2 z3 z4 z5 xl zl
 ·have HB := Lhd hbwb
  clear hbwa hbwb
  obtain ⟨x0, x1, x2, x3, x4, x5, x6, x7, xl⟩ := Hx.out _ HB.out
  go_wp2_with (go_at_call 43; refine (HR3.out _ HB.out).mono ?_; rintro x wc ⟨rfl, hbc⟩)
  have HBc := Lhd hbc
  clear hbc
  go_ret
  exact ⟨ret_str (by simp [ByteArray.data_append]), Hb1.out.trans (HBc.out.mono Hb1.out.size)⟩
end Go.Proofs.YtmgldjpdhpopnaaGreatDoor
