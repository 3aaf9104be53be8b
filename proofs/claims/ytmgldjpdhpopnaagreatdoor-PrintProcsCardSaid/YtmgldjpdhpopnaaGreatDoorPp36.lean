/- Parts of this proof, one behind the other: PrtY3. -/
import Derived.Deep.RegionHeld3
import Derived.Test.YtmgldjpdhpopnaaGreatDoorPp35
set_option maxRecDepth 1000000
set_option maxHeartbeats 40000000
namespace Go.Proofs.YtmgldjpdhpopnaaGreatDoor
open Go.RowKit Go.Afx
theorem refx_21 (n : Int) (s name src : ByteArray) (b o c : Nat) (a1 : Ex) (A1 : Option Addr) (m1 c1 : Nat) (S1 : ByteArray) (w : World) (hbl : b < w.heap.size)
  (hS1 : Six w b o a1 A1 m1 c1) (hD1 : RTx w 138 #[.string name, .string src, .agg (rowOf a1 A1 m1 c1).toArray] S1) (hl1 : S1.size ≤ 1000000000) :
  Calls Tryz.prog 139 #[.agg #[.int .i64 21, .int .i64 n, .string s, .string name, .string src, .slice (some ⟨b, o, none⟩) 1 c]] w fun e' w' => e' = .returned (.string ⟨(sgnL 21 ++ [40] ++ S1.data.toList ++ [] ++ [41]).toArray⟩) ∧ Below w.heap.size w w' := by
 have Hsg := Lhd (fun W => bind_any 21 W (by decide) (by decide))
 have Hsl := Lhd (show sgnL 21 = [99, 111, 117, 110, 116] from rfl)
 have n1 : ¬ 9223372036854775807 < 5 + 1 + S1.size := by omega
 have n2 : ¬ 9223372036854775807 < 6 + S1.size := by omega
 have n3 : ¬ 9223372036854775807 < 5 + 1 + S1.size + 1 := by omega
 have n4 : ¬ 9223372036854775807 < 6 + S1.size + 1 := by omega
 have HS1 := Lhd (fun W (hW : Below w.heap.size w W) => hS1.later hbl hW)
 have HD1 := Lhd hD1
 clear hbl hS1 hD1 hl1
 obtain ⟨w1, Hw1⟩ : ∃ w1, Hid (w1 = w.alloc (.cells #[.int .i64 21, .int .i64 n, .string s, .string name, .string src, .slice (some ⟨b, o, none⟩) 1 c] 32)) := ⟨_, rfl⟩
 have hb1 : Below w.heap.size w w1 := by rw [Hw1.out]; exact (Below.refl _ _).alloc (Nat.le_refl _) _
 have hk1 : IsBlk w1 w.heap.size 32 #[.int .i64 21, .int .i64 n, .string s, .string name, .string src, .slice (some ⟨b, o, none⟩) 1 c] := by rw [Hw1.out]; exact IsBlk.laid _ _ _
 have Hx := Lhd (fun W (hW : Below w1.heap.size w1 W) => box6 (hk1.as_was (hW.block _ hk1.lt)))
 have Hb1 := Lhd hb1
 obtain ⟨x0, x1, x2, x3, x4, x5, xl⟩ := Hx.out _ (Below.refl _ _)
 clear hb1 hk1
 go_enter Tryz.func139, Tryz.ntmps139
 go_upto_region 1 with (fail)
 rw [← Hw1.out]
 go_wp2_with (go_at_call 174; refine (Hsg.out _).mono ?_)
 rintro x w2 ⟨rfl, hb2⟩
 obtain ⟨y0, y1, y2, y3, y4, y5, yl⟩ := Hx.out _ hb2
 have Hb2 := Lhd (Hb1.out.trans (hb2.mono Hb1.out.size))
 obtain ⟨w3, Hw3⟩ : ∃ w3, Hid (w3 = w2.alloc (.cells #[.string ⟨#[99, 111, 117, 110, 116]⟩, .string ⟨#[115, 117, 109]⟩, .string ⟨#[109, 105, 110]⟩, .string ⟨#[109, 97, 120]⟩] 9)) := ⟨_, rfl⟩
 have hb3 : Below w2.heap.size w2 w3 := by rw [Hw3.out]; exact (Below.refl _ _).alloc (Nat.le_refl _) _
 have hk3 : IsBlk w3 w2.heap.size 9 #[.string ⟨#[99, 111, 117, 110, 116]⟩, .string ⟨#[115, 117, 109]⟩, .string ⟨#[109, 105, 110]⟩, .string ⟨#[109, 97, 120]⟩] := by rw [Hw3.out]; exact IsBlk.laid _ _ _
 have Hb3 := Lhd (Hb2.out.trans (hb3.mono Hb2.out.size))
 have Hb13 := Lhd (hb2.trans (hb3.mono hb2.size))
 have HS := Lhd (fun W (hW : Below w3.heap.size w3 W) => (show W.cell? ⟨w.heap.size, 0, none⟩ = some (.int .i64 21) ∧ W.cell? ⟨w.heap.size, 1, none⟩ = some (.int .i64 n) ∧ W.cell? ⟨w.heap.size, 2, none⟩ = some (.string s) ∧ W.cell? ⟨w.heap.size, 3, none⟩ = some (.string name) ∧ W.cell? ⟨w.heap.size, 4, none⟩ = some (.string src) ∧ W.cell? ⟨w.heap.size, 5, none⟩ = some (.slice (some ⟨b, o, none⟩) 1 c) ∧ W.cell? ⟨b, o, none⟩ = some (.int .i64 a1.op) ∧ W.cell? ⟨b, o + 1, none⟩ = some (.int .i64 a1.n) ∧ W.cell? ⟨b, o + 2, none⟩ = some (.string a1.s) ∧ W.cell? ⟨b, o + 3, none⟩ = some (.string a1.name) ∧ W.cell? ⟨b, o + 4, none⟩ = some (.string a1.src) ∧ W.cell? ⟨b, o + 5, none⟩ = some (.slice A1 m1 c1) ∧ W.cell? ⟨w2.heap.size, 0, none⟩ = some (.string ⟨#[99, 111, 117, 110, 116]⟩) ∧ w.heap.size < W.heap.size ∧ b < W.heap.size ∧ w2.heap.size < W.heap.size from by
  obtain ⟨p0, p1, p2, p3, p4, p5, p6⟩ := Hx.out W (Hb13.out.trans (hW.mono Hb13.out.size))
  obtain ⟨q0, q1, q2, q3, q4, q5, q6⟩ := HS1.out W (Hb3.out.trans (hW.mono Hb3.out.size))
  have hk := hk3.as_was (hW.block _ hk3.lt)
  exact ⟨p0, p1, p2, p3, p4, p5, q0, q1, q2, q3, q4, q5, hk.cell 0, p6, q6, hk.lt⟩))
 have HR := Lhd (HD1.out.at_ Hb3.out)
 have hrf : Below w3.heap.size w3 w3 := Below.refl _ _
 clear x0 x1 x2 x3 x4 x5 xl hb2 hb3 hk3
 go_upto_region 14 with (fail)
 rw [← Hw3.out]
 clear y0 y1 y2 y3 y4 y5 yl
 obtain ⟨x0, x1, x2, x3, x4, x5, z0, z1, z2, z3, z4, z5, v0, xl, zl, vl⟩ := HS.out w3 hrf
 have i1 : IntKind.i64.wrap 0 = 0 := by decide
 go_region_held3 (fun W => W.cell? ⟨w.heap.size, 0, none⟩ = some (.int .i64 21) ∧ W.cell? ⟨w.heap.size, 1, none⟩ = some (.int .i64 n) ∧ W.cell? ⟨w.heap.size, 2, none⟩ = some (.string s) ∧ W.cell? ⟨w.heap.size, 3, none⟩ = some (.string name) ∧ W.cell? ⟨w.heap.size, 4, none⟩ = some (.string src) ∧ W.cell? ⟨w.heap.size, 5, none⟩ = some (.slice (some ⟨b, o, none⟩) 1 c) ∧ W.cell? ⟨b, o, none⟩ = some (.int .i64 a1.op) ∧ W.cell? ⟨b, o + 1, none⟩ = some (.int .i64 a1.n) ∧ W.cell? ⟨b, o + 2, none⟩ = some (.string a1.s) ∧ W.cell? ⟨b, o + 3, none⟩ = some (.string a1.name) ∧ W.cell? ⟨b, o + 4, none⟩ = some (.string a1.src) ∧ W.cell? ⟨b, o + 5, none⟩ = some (.slice A1 m1 c1) ∧ W.cell? ⟨w2.heap.size, 0, none⟩ = some (.string ⟨#[99, 111, 117, 110, 116]⟩) ∧ w.heap.size < W.heap.size ∧ b < W.heap.size ∧ w2.heap.size < W.heap.size) (first | assumption | exact HS.out _ (by assumption) | exact HS.out _ (Below.drew (by assumption)) | (refine ⟨?_, ?_, ?_, ?_, ?_, ?_, ?_, ?_, ?_, ?_, ?_, ?_, ?_, ?_, ?_, ?_⟩ <;> first | assumption | (go_simp; done))) (first | (go_at_call 138; go_loud (refine (HR.out _ (by first | assumption | exact Below.drew (by assumption))).mono ?_; rintro x wa ⟨rfl, hba⟩)))
 clear x0 x1 x2 x3 x4 x5 z0 z1 z2 z3 z4 z5 v0 i1
 have HBa := Lhd hba
 clear hba
 all_goals
  go_wp2
  go_ret
  exact ⟨ret_str (by simp [ByteArray.data_append, Hsl.out]), Hb3.out.trans (HBa.out.mono Hb3.out.size)⟩
theorem refx_22 (n : Int) (s name src : ByteArray) (b o c : Nat) (a1 a2 : Ex) (A1 A2 : Option Addr) (m1 c1 m2 c2 : Nat) (S1 S2 : ByteArray) (w : World) (hbl : b < w.heap.size)
  (hS1 : Six w b o a1 A1 m1 c1) (hD1 : RTx w 138 #[.string name, .string src, .agg (rowOf a1 A1 m1 c1).toArray] S1) (hl1 : S1.size ≤ 1000000000) (hS2 : Six w b (o + 6) a2 A2 m2 c2) (hD2 : RTx w 139 #[.agg (rowOf a2 A2 m2 c2).toArray] S2) (hl2 : S2.size ≤ 1000000000) :
  Calls Tryz.prog 139 #[.agg #[.int .i64 22, .int .i64 n, .string s, .string name, .string src, .slice (some ⟨b, o, none⟩) 2 c]] w fun e' w' => e' = .returned (.string ⟨(sgnL 22 ++ [40] ++ S1.data.toList ++ ([58, 32] ++ S2.data.toList) ++ [41]).toArray⟩) ∧ Below w.heap.size w w' := by
 have Hsg := Lhd (fun W => bind_any 22 W (by decide) (by decide))
 have Hsl := Lhd (show sgnL 22 = [115, 117, 109] from rfl)
 have n1 : ¬ 9223372036854775807 < 3 + 1 + S1.size := by omega
 have n2 : ¬ 9223372036854775807 < 4 + S1.size := by omega
 have n3 : ¬ 9223372036854775807 < 3 + 1 + S1.size + 2 := by omega
 have n4 : ¬ 9223372036854775807 < 4 + S1.size + 2 := by omega
 have n5 : ¬ 9223372036854775807 < 3 + 1 + S1.size + 2 + S2.size := by omega
 have n6 : ¬ 9223372036854775807 < 4 + S1.size + 2 + S2.size := by omega
 have n7 : ¬ 9223372036854775807 < 3 + 1 + S1.size + 2 + S2.size + 1 := by omega
 have n8 : ¬ 9223372036854775807 < 4 + S1.size + 2 + S2.size + 1 := by omega
 have HS1 := Lhd (fun W (hW : Below w.heap.size w W) => hS1.later hbl hW)
 have HD1 := Lhd hD1
 have HS2 := Lhd (fun W (hW : Below w.heap.size w W) => hS2.later hbl hW)
 have HD2 := Lhd hD2
 clear hbl hS1 hD1 hl1 hS2 hD2 hl2
 obtain ⟨w1, Hw1⟩ : ∃ w1, Hid (w1 = w.alloc (.cells #[.int .i64 22, .int .i64 n, .string s, .string name, .string src, .slice (some ⟨b, o, none⟩) 2 c] 32)) := ⟨_, rfl⟩
 have hb1 : Below w.heap.size w w1 := by rw [Hw1.out]; exact (Below.refl _ _).alloc (Nat.le_refl _) _
 have hk1 : IsBlk w1 w.heap.size 32 #[.int .i64 22, .int .i64 n, .string s, .string name, .string src, .slice (some ⟨b, o, none⟩) 2 c] := by rw [Hw1.out]; exact IsBlk.laid _ _ _
 have Hx := Lhd (fun W (hW : Below w1.heap.size w1 W) => box6 (hk1.as_was (hW.block _ hk1.lt)))
 have Hb1 := Lhd hb1
 obtain ⟨x0, x1, x2, x3, x4, x5, xl⟩ := Hx.out _ (Below.refl _ _)
 clear hb1 hk1
 go_enter Tryz.func139, Tryz.ntmps139
 go_upto_region 1 with (fail)
 rw [← Hw1.out]
 go_wp2_with (go_at_call 174; refine (Hsg.out _).mono ?_)
 rintro x w2 ⟨rfl, hb2⟩
 obtain ⟨y0, y1, y2, y3, y4, y5, yl⟩ := Hx.out _ hb2
 have Hb2 := Lhd (Hb1.out.trans (hb2.mono Hb1.out.size))
 obtain ⟨w3, Hw3⟩ : ∃ w3, Hid (w3 = w2.alloc (.cells #[.string ⟨#[99, 111, 117, 110, 116]⟩, .string ⟨#[115, 117, 109]⟩, .string ⟨#[109, 105, 110]⟩, .string ⟨#[109, 97, 120]⟩] 9)) := ⟨_, rfl⟩
 have hb3 : Below w2.heap.size w2 w3 := by rw [Hw3.out]; exact (Below.refl _ _).alloc (Nat.le_refl _) _
 have hk3 : IsBlk w3 w2.heap.size 9 #[.string ⟨#[99, 111, 117, 110, 116]⟩, .string ⟨#[115, 117, 109]⟩, .string ⟨#[109, 105, 110]⟩, .string ⟨#[109, 97, 120]⟩] := by rw [Hw3.out]; exact IsBlk.laid _ _ _
 have Hb3 := Lhd (Hb2.out.trans (hb3.mono Hb2.out.size))
 have Hb13 := Lhd (hb2.trans (hb3.mono hb2.size))
 have HS := Lhd (fun W (hW : Below w3.heap.size w3 W) => (show W.cell? ⟨w.heap.size, 0, none⟩ = some (.int .i64 22) ∧ W.cell? ⟨w.heap.size, 1, none⟩ = some (.int .i64 n) ∧ W.cell? ⟨w.heap.size, 2, none⟩ = some (.string s) ∧ W.cell? ⟨w.heap.size, 3, none⟩ = some (.string name) ∧ W.cell? ⟨w.heap.size, 4, none⟩ = some (.string src) ∧ W.cell? ⟨w.heap.size, 5, none⟩ = some (.slice (some ⟨b, o, none⟩) 2 c) ∧ W.cell? ⟨b, o, none⟩ = some (.int .i64 a1.op) ∧ W.cell? ⟨b, o + 1, none⟩ = some (.int .i64 a1.n) ∧ W.cell? ⟨b, o + 2, none⟩ = some (.string a1.s) ∧ W.cell? ⟨b, o + 3, none⟩ = some (.string a1.name) ∧ W.cell? ⟨b, o + 4, none⟩ = some (.string a1.src) ∧ W.cell? ⟨b, o + 5, none⟩ = some (.slice A1 m1 c1) ∧ W.cell? ⟨w2.heap.size, 1, none⟩ = some (.string ⟨#[115, 117, 109]⟩) ∧ w.heap.size < W.heap.size ∧ b < W.heap.size ∧ w2.heap.size < W.heap.size from by
  obtain ⟨p0, p1, p2, p3, p4, p5, p6⟩ := Hx.out W (Hb13.out.trans (hW.mono Hb13.out.size))
  obtain ⟨q0, q1, q2, q3, q4, q5, q6⟩ := HS1.out W (Hb3.out.trans (hW.mono Hb3.out.size))
  have hk := hk3.as_was (hW.block _ hk3.lt)
  exact ⟨p0, p1, p2, p3, p4, p5, q0, q1, q2, q3, q4, q5, hk.cell 1, p6, q6, hk.lt⟩))
 have HR := Lhd (HD1.out.at_ Hb3.out)
 have hrf : Below w3.heap.size w3 w3 := Below.refl _ _
 clear x0 x1 x2 x3 x4 x5 xl hb2 hb3 hk3
 go_upto_region 14 with (fail)
 rw [← Hw3.out]
 clear y0 y1 y2 y3 y4 y5 yl
 obtain ⟨x0, x1, x2, x3, x4, x5, z0, z1, z2, z3, z4, z5, v0, xl, zl, vl⟩ := HS.out w3 hrf
 have i1 : IntKind.i64.wrap 1 = 1 := by decide
 go_region_held3 (fun W => W.cell? ⟨w.heap.size, 0, none⟩ = some (.int .i64 22) ∧ W.cell? ⟨w.heap.size, 1, none⟩ = some (.int .i64 n) ∧ W.cell? ⟨w.heap.size, 2, none⟩ = some (.string s) ∧ W.cell? ⟨w.heap.size, 3, none⟩ = some (.string name) ∧ W.cell? ⟨w.heap.size, 4, none⟩ = some (.string src) ∧ W.cell? ⟨w.heap.size, 5, none⟩ = some (.slice (some ⟨b, o, none⟩) 2 c) ∧ W.cell? ⟨b, o, none⟩ = some (.int .i64 a1.op) ∧ W.cell? ⟨b, o + 1, none⟩ = some (.int .i64 a1.n) ∧ W.cell? ⟨b, o + 2, none⟩ = some (.string a1.s) ∧ W.cell? ⟨b, o + 3, none⟩ = some (.string a1.name) ∧ W.cell? ⟨b, o + 4, none⟩ = some (.string a1.src) ∧ W.cell? ⟨b, o + 5, none⟩ = some (.slice A1 m1 c1) ∧ W.cell? ⟨w2.heap.size, 1, none⟩ = some (.string ⟨#[115, 117, 109]⟩) ∧ w.heap.size < W.heap.size ∧ b < W.heap.size ∧ w2.heap.size < W.heap.size) (first | assumption | exact HS.out _ (by assumption) | exact HS.out _ (Below.drew (by assumption)) | (refine ⟨?_, ?_, ?_, ?_, ?_, ?_, ?_, ?_, ?_, ?_, ?_, ?_, ?_, ?_, ?_, ?_⟩ <;> first | assumption | (go_simp; done))) (first | (go_at_call 138; go_loud (refine (HR.out _ (by first | assumption | exact Below.drew (by assumption))).mono ?_; rintro x wa ⟨rfl, hba⟩)))
 clear x0 x1 x2 x3 x4 x5 z0 z1 z2 z3 z4 z5 v0 i1
 have HBa := Lhd hba
 have hta := HBa.out
 clear hba
 all_goals
  obtain ⟨x0, x1, x2, x3, x4, x5, xl⟩ := Hx.out _ (Hb13.out.trans (HBa.out.mono Hb13.out.size))
  obtain ⟨z0, z1, z2, z3, z4, z5, zl⟩ := HS2.out _ (Hb3.out.trans (HBa.out.mono Hb3.out.size))
  have HQ := Lhd (HD2.out _ (Hb3.out.trans (HBa.out.mono Hb3.out.size)))
  clear hta
  go_wp2_with (go_at_call 139; refine HQ.out.mono ?_)
  rintro x wb ⟨rfl, hbb⟩
  have HBb := Lhd ((Hb3.out.trans (HBa.out.mono Hb3.out.size)).trans (hbb.mono (Hb3.out.trans (HBa.out.mono Hb3.out.size)).size))
  clear hbb x0 x1 x2 x3 x4 x5 z0 z1 z2 z3 z4 z5 xl zl
  go_wp2
  go_ret
  exact ⟨ret_str (by simp [ByteArray.data_append, Hsl.out]), HBb.out⟩
theorem refx_23 (n : Int) (s name src : ByteArray) (b o c : Nat) (a1 a2 : Ex) (A1 A2 : Option Addr) (m1 c1 m2 c2 : Nat) (S1 S2 : ByteArray) (w : World) (hbl : b < w.heap.size)
  (hS1 : Six w b o a1 A1 m1 c1) (hD1 : RTx w 138 #[.string name, .string src, .agg (rowOf a1 A1 m1 c1).toArray] S1) (hl1 : S1.size ≤ 1000000000) (hS2 : Six w b (o + 6) a2 A2 m2 c2) (hD2 : RTx w 139 #[.agg (rowOf a2 A2 m2 c2).toArray] S2) (hl2 : S2.size ≤ 1000000000) :
  Calls Tryz.prog 139 #[.agg #[.int .i64 23, .int .i64 n, .string s, .string name, .string src, .slice (some ⟨b, o, none⟩) 2 c]] w fun e' w' => e' = .returned (.string ⟨(sgnL 23 ++ [40] ++ S1.data.toList ++ ([58, 32] ++ S2.data.toList) ++ [41]).toArray⟩) ∧ Below w.heap.size w w' := by
 have Hsg := Lhd (fun W => bind_any 23 W (by decide) (by decide))
 have Hsl := Lhd (show sgnL 23 = [109, 105, 110] from rfl)
 have n1 : ¬ 9223372036854775807 < 3 + 1 + S1.size := by omega
 have n2 : ¬ 9223372036854775807 < 4 + S1.size := by omega
 have n3 : ¬ 9223372036854775807 < 3 + 1 + S1.size + 2 := by omega
 have n4 : ¬ 9223372036854775807 < 4 + S1.size + 2 := by omega
 have n5 : ¬ 9223372036854775807 < 3 + 1 + S1.size + 2 + S2.size := by omega
 have n6 : ¬ 9223372036854775807 < 4 + S1.size + 2 + S2.size := by omega
 have n7 : ¬ 9223372036854775807 < 3 + 1 + S1.size + 2 + S2.size + 1 := by omega
 have n8 : ¬ 9223372036854775807 < 4 + S1.size + 2 + S2.size + 1 := by omega
 have HS1 := Lhd (fun W (hW : Below w.heap.size w W) => hS1.later hbl hW)
 have HD1 := Lhd hD1
 have HS2 := Lhd (fun W (hW : Below w.heap.size w W) => hS2.later hbl hW)
 have HD2 := Lhd hD2
 clear hbl hS1 hD1 hl1 hS2 hD2 hl2
 obtain ⟨w1, Hw1⟩ : ∃ w1, Hid (w1 = w.alloc (.cells #[.int .i64 23, .int .i64 n, .string s, .string name, .string src, .slice (some ⟨b, o, none⟩) 2 c] 32)) := ⟨_, rfl⟩
 have hb1 : Below w.heap.size w w1 := by rw [Hw1.out]; exact (Below.refl _ _).alloc (Nat.le_refl _) _
 have hk1 : IsBlk w1 w.heap.size 32 #[.int .i64 23, .int .i64 n, .string s, .string name, .string src, .slice (some ⟨b, o, none⟩) 2 c] := by rw [Hw1.out]; exact IsBlk.laid _ _ _
 have Hx := Lhd (fun W (hW : Below w1.heap.size w1 W) => box6 (hk1.as_was (hW.block _ hk1.lt)))
 have Hb1 := Lhd hb1
 obtain ⟨x0, x1, x2, x3, x4, x5, xl⟩ := Hx.out _ (Below.refl _ _)
 clear hb1 hk1
 go_enter Tryz.func139, Tryz.ntmps139
 go_upto_region 1 with (fail)
 rw [← Hw1.out]
 go_wp2_with (go_at_call 174; refine (Hsg.out _).mono ?_)
 rintro x w2 ⟨rfl, hb2⟩
 obtain ⟨y0, y1, y2, y3, y4, y5, yl⟩ := Hx.out _ hb2
 have Hb2 := Lhd (Hb1.out.trans (hb2.mono Hb1.out.size))
 obtain ⟨w3, Hw3⟩ : ∃ w3, Hid (w3 = w2.alloc (.cells #[.string ⟨#[99, 111, 117, 110, 116]⟩, .string ⟨#[115, 117, 109]⟩, .string ⟨#[109, 105, 110]⟩, .string ⟨#[109, 97, 120]⟩] 9)) := ⟨_, rfl⟩
 have hb3 : Below w2.heap.size w2 w3 := by rw [Hw3.out]; exact (Below.refl _ _).alloc (Nat.le_refl _) _
 have hk3 : IsBlk w3 w2.heap.size 9 #[.string ⟨#[99, 111, 117, 110, 116]⟩, .string ⟨#[115, 117, 109]⟩, .string ⟨#[109, 105, 110]⟩, .string ⟨#[109, 97, 120]⟩] := by rw [Hw3.out]; exact IsBlk.laid _ _ _
 have Hb3 := Lhd (Hb2.out.trans (hb3.mono Hb2.out.size))
 have Hb13 := Lhd (hb2.trans (hb3.mono hb2.size))
 have HS := Lhd (fun W (hW : Below w3.heap.size w3 W) => (show W.cell? ⟨w.heap.size, 0, none⟩ = some (.int .i64 23) ∧ W.cell? ⟨w.heap.size, 1, none⟩ = some (.int .i64 n) ∧ W.cell? ⟨w.heap.size, 2, none⟩ = some (.string s) ∧ W.cell? ⟨w.heap.size, 3, none⟩ = some (.string name) ∧ W.cell? ⟨w.heap.size, 4, none⟩ = some (.string src) ∧ W.cell? ⟨w.heap.size, 5, none⟩ = some (.slice (some ⟨b, o, none⟩) 2 c) ∧ W.cell? ⟨b, o, none⟩ = some (.int .i64 a1.op) ∧ W.cell? ⟨b, o + 1, none⟩ = some (.int .i64 a1.n) ∧ W.cell? ⟨b, o + 2, none⟩ = some (.string a1.s) ∧ W.cell? ⟨b, o + 3, none⟩ = some (.string a1.name) ∧ W.cell? ⟨b, o + 4, none⟩ = some (.string a1.src) ∧ W.cell? ⟨b, o + 5, none⟩ = some (.slice A1 m1 c1) ∧ W.cell? ⟨w2.heap.size, 2, none⟩ = some (.string ⟨#[109, 105, 110]⟩) ∧ w.heap.size < W.heap.size ∧ b < W.heap.size ∧ w2.heap.size < W.heap.size from by
  obtain ⟨p0, p1, p2, p3, p4, p5, p6⟩ := Hx.out W (Hb13.out.trans (hW.mono Hb13.out.size))
  obtain ⟨q0, q1, q2, q3, q4, q5, q6⟩ := HS1.out W (Hb3.out.trans (hW.mono Hb3.out.size))
  have hk := hk3.as_was (hW.block _ hk3.lt)
  exact ⟨p0, p1, p2, p3, p4, p5, q0, q1, q2, q3, q4, q5, hk.cell 2, p6, q6, hk.lt⟩))
 have HR := Lhd (HD1.out.at_ Hb3.out)
 have hrf : Below w3.heap.size w3 w3 := Below.refl _ _
 clear x0 x1 x2 x3 x4 x5 xl hb2 hb3 hk3
 go_upto_region 14 with (fail)
 rw [← Hw3.out]
 clear y0 y1 y2 y3 y4 y5 yl
 obtain ⟨x0, x1, x2, x3, x4, x5, z0, z1, z2, z3, z4, z5, v0, xl, zl, vl⟩ := HS.out w3 hrf
 have i1 : IntKind.i64.wrap 2 = 2 := by decide
 go_region_held3 (fun W => W.cell? ⟨w.heap.size, 0, none⟩ = some (.int .i64 23) ∧ W.cell? ⟨w.heap.size, 1, none⟩ = some (.int .i64 n) ∧ W.cell? ⟨w.heap.size, 2, none⟩ = some (.string s) ∧ W.cell? ⟨w.heap.size, 3, none⟩ = some (.string name) ∧ W.cell? ⟨w.heap.size, 4, none⟩ = some (.string src) ∧ W.cell? ⟨w.heap.size, 5, none⟩ = some (.slice (some ⟨b, o, none⟩) 2 c) ∧ W.cell? ⟨b, o, none⟩ = some (.int .i64 a1.op) ∧ W.cell? ⟨b, o + 1, none⟩ = some (.int .i64 a1.n) ∧ W.cell? ⟨b, o + 2, none⟩ = some (.string a1.s) ∧ W.cell? ⟨b, o + 3, none⟩ = some (.string a1.name) ∧ W.cell? ⟨b, o + 4, none⟩ = some (.string a1.src) ∧ W.cell? ⟨b, o + 5, none⟩ = some (.slice A1 m1 c1) ∧ W.cell? ⟨w2.heap.size, 2, none⟩ = some (.string ⟨#[109, 105, 110]⟩) ∧ w.heap.size < W.heap.size ∧ b < W.heap.size ∧ w2.heap.size < W.heap.size) (first | assumption | exact HS.out _ (by assumption) | exact HS.out _ (Below.drew (by assumption)) | (refine ⟨?_, ?_, ?_, ?_, ?_, ?_, ?_, ?_, ?_, ?_, ?_, ?_, ?_, ?_, ?_, ?_⟩ <;> first | assumption | (go_simp; done))) (first | (go_at_call 138; go_loud (refine (HR.out _ (by first | assumption | exact Below.drew (by assumption))).mono ?_; rintro x wa ⟨rfl, hba⟩)))
 clear x0 x1 x2 x3 x4 x5 z0 z1 z2 z3 z4 z5 v0 i1
 have HBa := Lhd hba
 have hta := HBa.out
 clear hba
 all_goals
  obtain ⟨x0, x1, x2, x3, x4, x5, xl⟩ := Hx.out _ (Hb13.out.trans (HBa.out.mono Hb13.out.size))
  obtain ⟨z0, z1, z2, z3, z4, z5, zl⟩ := HS2.out _ (Hb3.out.trans (HBa.out.mono Hb3.out.size))
  have HQ := Lhd (HD2.out _ (Hb3.out.trans (HBa.out.mono Hb3.out.size)))
  clear hta
  go_wp2_with (go_at_call 139; refine HQ.out.mono ?_)
  rintro x wb ⟨rfl, hbb⟩
  have HBb := Lhd ((Hb3.out.trans (HBa.out.mono Hb3.out.size)).trans (hbb.mono (Hb3.out.trans (HBa.out.mono Hb3.out.size)).size))
  clear hbb x0 x1 x2 x3 x4 x5 z0 z1 z2 z3 z4 z5 xl zl
  go_wp2
  go_ret
  exact ⟨ret_str (by simp [ByteArray.data_append, Hsl.out]), HBb.out⟩
theorem refx_24 (n : Int) (s name src : ByteArray) (b o c : Nat) (a1 a2 : Ex) (A1 A2 : Option Addr) (m1 c1 m2 c2 : Nat) (S1 S2 : ByteArray) (w : World) (hbl : b < w.heap.size)
  (hS1 : Six w b o a1 A1 m1 c1) (hD1 : RTx w 138 #[.string name, .string src, .agg (rowOf a1 A1 m1 c1).toArray] S1) (hl1 : S1.size ≤ 1000000000) (hS2 : Six w b (o + 6) a2 A2 m2 c2) (hD2 : RTx w 139 #[.agg (rowOf a2 A2 m2 c2).toArray] S2) (hl2 : S2.size ≤ 1000000000) :
  Calls Tryz.prog 139 #[.agg #[.int .i64 24, .int .i64 n, .string s, .string name, .string src, .slice (some ⟨b, o, none⟩) 2 c]] w fun e' w' => e' = .returned (.string ⟨(sgnL 24 ++ [40] ++ S1.data.toList ++ ([58, 32] ++ S2.data.toList) ++ [41]).toArray⟩) ∧ Below w.heap.size w w' := by
 have Hsg := Lhd (fun W => bind_any 24 W (by decide) (by decide))
 have Hsl := Lhd (show sgnL 24 = [109, 97, 120] from rfl)
 have n1 : ¬ 9223372036854775807 < 3 + 1 + S1.size := by omega
 have n2 : ¬ 9223372036854775807 < 4 + S1.size := by omega
 have n3 : ¬ 9223372036854775807 < 3 + 1 + S1.size + 2 := by omega
 have n4 : ¬ 9223372036854775807 < 4 + S1.size + 2 := by omega
 have n5 : ¬ 9223372036854775807 < 3 + 1 + S1.size + 2 + S2.size := by omega
 have n6 : ¬ 9223372036854775807 < 4 + S1.size + 2 + S2.size := by omega
 have n7 : ¬ 9223372036854775807 < 3 + 1 + S1.size + 2 + S2.size + 1 := by omega
 have n8 : ¬ 9223372036854775807 < 4 + S1.size + 2 + S2.size + 1 := by omega
 have HS1 := Lhd (fun W (hW : Below w.heap.size w W) => hS1.later hbl hW)
 have HD1 := Lhd hD1
 have HS2 := Lhd (fun W (hW : Below w.heap.size w W) => hS2.later hbl hW)
 have HD2 := Lhd hD2
 clear hbl hS1 hD1 hl1 hS2 hD2 hl2
 obtain ⟨w1, Hw1⟩ : ∃ w1, Hid (w1 = w.alloc (.cells #[.int .i64 24, .int .i64 n, .string s, .string name, .string src, .slice (some ⟨b, o, none⟩) 2 c] 32)) := ⟨_, rfl⟩
 have hb1 : Below w.heap.size w w1 := by rw [Hw1.out]; exact (Below.refl _ _).alloc (Nat.le_refl _) _
 have hk1 : IsBlk w1 w.heap.size 32 #[.int .i64 24, .int .i64 n, .string s, .string name, .string src, .slice (some ⟨b, o, none⟩) 2 c] := by rw [Hw1.out]; exact IsBlk.laid _ _ _
 have Hx := Lhd (fun W (hW : Below w1.heap.size w1 W) => box6 (hk1.as_was (hW.block _ hk1.lt)))
 have Hb1 := Lhd hb1
 obtain ⟨x0, x1, x2, x3, x4, x5, xl⟩ := Hx.out _ (Below.refl _ _)
 clear hb1 hk1
 go_enter Tryz.func139, Tryz.ntmps139
 go_upto_region 1 with (fail)
 rw [← Hw1.out]
 go_wp2_with (go_at_call 174; refine (Hsg.out _).mono ?_)
 rintro x w2 ⟨rfl, hb2⟩
 obtain ⟨y0, y1, y2, y3, y4, y5, yl⟩ := Hx.out _ hb2
 have Hb2 := Lhd (Hb1.out.trans (hb2.mono Hb1.out.size))
 obtain ⟨w3, Hw3⟩ : ∃ w3, Hid (w3 = w2.alloc (.cells #[.string ⟨#[99, 111, 117, 110, 116]⟩, .string ⟨#[115, 117, 109]⟩, .string ⟨#[109, 105, 110]⟩, .string ⟨#[109, 97, 120]⟩] 9)) := ⟨_, rfl⟩
 have hb3 : Below w2.heap.size w2 w3 := by rw [Hw3.out]; exact (Below.refl _ _).alloc (Nat.le_refl _) _
 have hk3 : IsBlk w3 w2.heap.size 9 #[.string ⟨#[99, 111, 117, 110, 116]⟩, .string ⟨#[115, 117, 109]⟩, .string ⟨#[109, 105, 110]⟩, .string ⟨#[109, 97, 120]⟩] := by rw [Hw3.out]; exact IsBlk.laid _ _ _
 have Hb3 := Lhd (Hb2.out.trans (hb3.mono Hb2.out.size))
 have Hb13 := Lhd (hb2.trans (hb3.mono hb2.size))
 have HS := Lhd (fun W (hW : Below w3.heap.size w3 W) => (show W.cell? ⟨w.heap.size, 0, none⟩ = some (.int .i64 24) ∧ W.cell? ⟨w.heap.size, 1, none⟩ = some (.int .i64 n) ∧ W.cell? ⟨w.heap.size, 2, none⟩ = some (.string s) ∧ W.cell? ⟨w.heap.size, 3, none⟩ = some (.string name) ∧ W.cell? ⟨w.heap.size, 4, none⟩ = some (.string src) ∧ W.cell? ⟨w.heap.size, 5, none⟩ = some (.slice (some ⟨b, o, none⟩) 2 c) ∧ W.cell? ⟨b, o, none⟩ = some (.int .i64 a1.op) ∧ W.cell? ⟨b, o + 1, none⟩ = some (.int .i64 a1.n) ∧ W.cell? ⟨b, o + 2, none⟩ = some (.string a1.s) ∧ W.cell? ⟨b, o + 3, none⟩ = some (.string a1.name) ∧ W.cell? ⟨b, o + 4, none⟩ = some (.string a1.src) ∧ W.cell? ⟨b, o + 5, none⟩ = some (.slice A1 m1 c1) ∧ W.cell? ⟨w2.heap.size, 3, none⟩ = some (.string ⟨#[109, 97, 120]⟩) ∧ w.heap.size < W.heap.size ∧ b < W.heap.size ∧ w2.heap.size < W.heap.size from by
  obtain ⟨p0, p1, p2, p3, p4, p5, p6⟩ := Hx.out W (Hb13.out.trans (hW.mono Hb13.out.size))
  obtain ⟨q0, q1, q2, q3, q4, q5, q6⟩ := HS1.out W (Hb3.out.trans (hW.mono Hb3.out.size))
  have hk := hk3.as_was (hW.block _ hk3.lt)
  exact ⟨p0, p1, p2, p3, p4, p5, q0, q1, q2, q3, q4, q5, hk.cell 3, p6, q6, hk.lt⟩))
 have HR := Lhd (HD1.out.at_ Hb3.out)
 have hrf : Below w3.heap.size w3 w3 := Below.refl _ _
 clear x0 x1 x2 x3 x4 x5 xl hb2 hb3 hk3
 go_upto_region 14 with (fail)
 rw [← Hw3.out]
 clear y0 y1 y2 y3 y4 y5 yl
 obtain ⟨x0, x1, x2, x3, x4, x5, z0, z1, z2, z3, z4, z5, v0, xl, zl, vl⟩ := HS.out w3 hrf
 have i1 : IntKind.i64.wrap 3 = 3 := by decide
 go_region_held3 (fun W => W.cell? ⟨w.heap.size, 0, none⟩ = some (.int .i64 24) ∧ W.cell? ⟨w.heap.size, 1, none⟩ = some (.int .i64 n) ∧ W.cell? ⟨w.heap.size, 2, none⟩ = some (.string s) ∧ W.cell? ⟨w.heap.size, 3, none⟩ = some (.string name) ∧ W.cell? ⟨w.heap.size, 4, none⟩ = some (.string src) ∧ W.cell? ⟨w.heap.size, 5, none⟩ = some (.slice (some ⟨b, o, none⟩) 2 c) ∧ W.cell? ⟨b, o, none⟩ = some (.int .i64 a1.op) ∧ W.cell? ⟨b, o + 1, none⟩ = some (.int .i64 a1.n) ∧ W.cell? ⟨b, o + 2, none⟩ = some (.string a1.s) ∧ W.cell? ⟨b, o + 3, none⟩ = some (.string a1.name) ∧ W.cell? ⟨b, o + 4, none⟩ = some (.string a1.src) ∧ W.cell? ⟨b, o + 5, none⟩ = some (.slice A1 m1 c1) ∧ W.cell? ⟨w2.heap.size, 3, none⟩ = some (.string ⟨#[109, 97, 120]⟩) ∧ w.heap.size < W.heap.size ∧ b < W.heap.size ∧ w2.heap.size < W.heap.size) (first | assumption | exact HS.out _ (by assumption) | exact HS.out _ (Below.drew (by assumption)) | (refine ⟨?_, ?_, ?_, ?_, ?_, ?_, ?_, ?_, ?_, ?_, ?_, ?_, ?_, ?_, ?_, ?_⟩ <;> first | assumption | (go_simp; done))) (first | (go_at_call 138; go_loud (refine (HR.out _ (by first | assumption | exact Below.drew (by assumption))).mono ?_; rintro x wa ⟨rfl, hba⟩)))
 clear x0 x1 x2 x3 x4 x5 z0 z1 z2 z3 z4 z5 v0 i1
 have HBa := Lhd hba
 have hta := HBa.out
 clear hba
 all_goals
  obtain ⟨x0, x1, x2, x3, x4, x5, xl⟩ := Hx.out _ (Hb13.out.trans (HBa.out.mono Hb13.out.size))
  obtain ⟨z0, z1, z2, z3, z4, z5, zl⟩ := HS2.out _ (Hb3.out.trans (HBa.out.mono Hb3.out.size))
  have HQ := Lhd (HD2.out _ (Hb3.out.trans (HBa.out.mono Hb3.out.size)))
  clear hta
  go_wp2_with (go_at_call 139; refine HQ.out.mono ?_)
  rintro x wb ⟨rfl, hbb⟩
  have HBb := Lhd ((Hb3.out.trans (HBa.out.mono Hb3.out.size)).trans (hbb.mono (Hb3.out.trans (HBa.out.mono Hb3.out.size)).size))
  clear hbb x0 x1 x2 x3 x4 x5 z0 z1 z2 z3 z4 z5 xl zl
  go_wp2
  go_ret
  exact ⟨ret_str (by simp [ByteArray.data_append, Hsl.out]), HBb.out⟩
end Go.Proofs.YtmgldjpdhpopnaaGreatDoor
