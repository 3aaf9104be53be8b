/- Parts of this proof, one behind the other: PrtY4, PrtY, PrtA1. -/
import Derived.Deep.RegionHeld3
import Derived.Test.YtmgldjpdhpopnaaGreatDoorPp35
import Derived.Test.YtmgldjpdhpopnaaGreatDoorPp36
import Derived.Test.YtmgldjpdhpopnaaGreatDoorPp32
import Derived.Test.YtmgldjpdhpopnaaGreatDoorPp34
import Derived.Test.YtmgldjpdhpopnaaGreatDoorPp33
set_option maxRecDepth 1000000
set_option maxHeartbeats 40000000
namespace Go.Proofs.YtmgldjpdhpopnaaGreatDoor
open Go.RowKit Go.Afx
theorem refx_four (op n : Int) (s name src : ByteArray) (b o c : Nat) (a1 a2 : Ex) (A1 A2 : Option Addr) (m1 c1 m2 c2 : Nat) (S1 S2 : ByteArray) (w : World) (h6 : 6 ≤ op) (h18 : op ≤ 18) (hlv : lvlZ op = 4) (hbl : b < w.heap.size)
  (hS1 : Six w b o a1 A1 m1 c1) (hD1 : RTx w 176 #[.agg (rowOf a1 A1 m1 c1).toArray, .int .i64 5] S1) (hlen1 : S1.size ≤ 1000000000) (hS2 : Six w b (o + 6) a2 A2 m2 c2) (hD2 : RTx w 176 #[.agg (rowOf a2 A2 m2 c2).toArray, .int .i64 5] S2) (hlen2 : S2.size ≤ 1000000000) :
  Calls Tryz.prog 139 #[.agg #[.int .i64 op, .int .i64 n, .string s, .string name, .string src, .slice (some ⟨b, o, none⟩) 2 c]] w fun e' w' => e' = .returned (.string ⟨(S1.data.toList ++ ([32] ++ sgnL op ++ [32]) ++ S2.data.toList).toArray⟩) ∧ Below w.heap.size w w' := by
 obtain ⟨G, hG, hGs, hb0⟩ := bind_op op (by omega) (by omega)
 rw [← hG]
 rw [hlv] at hb0
 have Hsg := Lhd hb0
 have n1 : (op == 1) = false := by simp; omega
 have n2 : (op == 2) = false := by simp; omega
 have n3 : (op == 3) = false := by simp; omega
 have n4 : (op == 4) = false := by simp; omega
 have n5 : (op == 5) = false := by simp; omega
 have n21 : decide ((21 : Int) ≤ op) = false := by simp; omega
 have p1 : ¬ 9223372036854775807 < S1.size + 1 := by omega
 have p2 : ¬ 9223372036854775807 < S1.size + 1 + G.size := by omega
 have p3 : ¬ 9223372036854775807 < S1.size + 1 + G.size + 1 := by omega
 have p4 : ¬ 9223372036854775807 < S1.size + 1 + G.size + 1 + S2.size := by omega
 have HS1 := Lhd (fun W (hW : Below w.heap.size w W) => hS1.later hbl hW)
 have HD1 := Lhd hD1
 have HS2 := Lhd (fun W (hW : Below w.heap.size w W) => hS2.later hbl hW)
 have HD2 := Lhd hD2
 clear hb0 hlv hG hGs hlen1 hS1 hD1 hlen2 hS2 hD2 hbl h6 h18
 obtain ⟨w1, Hw1⟩ : ∃ w1, Hid (w1 = w.alloc (.cells #[.int .i64 op, .int .i64 n, .string s, .string name, .string src, .slice (some ⟨b, o, none⟩) 2 c] 32)) := ⟨_, rfl⟩
 have hb1 : Below w.heap.size w w1 := by rw [Hw1.out]; exact (Below.refl _ _).alloc (Nat.le_refl _) _
 have hk1 : IsBlk w1 w.heap.size 32 #[.int .i64 op, .int .i64 n, .string s, .string name, .string src, .slice (some ⟨b, o, none⟩) 2 c] := by rw [Hw1.out]; exact IsBlk.laid _ _ _
 have Hx := Lhd (fun W (hW : Below w1.heap.size w1 W) => box6 (hk1.as_was (hW.block _ hk1.lt)))
 have Hb1 := Lhd hb1
 obtain ⟨x0, x1, x2, x3, x4, x5, xl⟩ := Hx.out _ (Below.refl _ _)
 clear hb1 hk1
 go_enter Tryz.func139, Tryz.ntmps139
 go_upto_region 1 with (fail)
 rw [← Hw1.out]
 go_wp2_with (go_at_call 174; refine (Hsg.out _).mono ?_)
 rintro x w2 ⟨rfl, hb2⟩
 obtain ⟨y0, y1, y2, y3, y4, y5, yl⟩ := Hx.out _ hb2
 have Hb2 := Lhd (Hb1.out.trans (hb2.mono Hb1.out.size))
 have Hb12 := Lhd hb2
 have HS := Lhd (fun W (hW : Below w2.heap.size w2 W) => (show W.cell? ⟨w.heap.size, 0, none⟩ = some (.int .i64 op) ∧ W.cell? ⟨w.heap.size, 1, none⟩ = some (.int .i64 n) ∧ W.cell? ⟨w.heap.size, 2, none⟩ = some (.string s) ∧ W.cell? ⟨w.heap.size, 3, none⟩ = some (.string name) ∧ W.cell? ⟨w.heap.size, 4, none⟩ = some (.string src) ∧ W.cell? ⟨w.heap.size, 5, none⟩ = some (.slice (some ⟨b, o, none⟩) 2 c) ∧ W.cell? ⟨b, o, none⟩ = some (.int .i64 a1.op) ∧ W.cell? ⟨b, o + 1, none⟩ = some (.int .i64 a1.n) ∧ W.cell? ⟨b, o + 2, none⟩ = some (.string a1.s) ∧ W.cell? ⟨b, o + 3, none⟩ = some (.string a1.name) ∧ W.cell? ⟨b, o + 4, none⟩ = some (.string a1.src) ∧ W.cell? ⟨b, o + 5, none⟩ = some (.slice A1 m1 c1) ∧ W.cell? ⟨b, o + 6, none⟩ = some (.int .i64 a2.op) ∧ W.cell? ⟨b, o + 6 + 1, none⟩ = some (.int .i64 a2.n) ∧ W.cell? ⟨b, o + 6 + 2, none⟩ = some (.string a2.s) ∧ W.cell? ⟨b, o + 6 + 3, none⟩ = some (.string a2.name) ∧ W.cell? ⟨b, o + 6 + 4, none⟩ = some (.string a2.src) ∧ W.cell? ⟨b, o + 6 + 5, none⟩ = some (.slice A2 m2 c2) ∧ w.heap.size < W.heap.size ∧ b < W.heap.size from by
  obtain ⟨p0, p1, p2, p3, p4, p5, p6⟩ := Hx.out W (Hb12.out.trans (hW.mono Hb12.out.size))
  obtain ⟨q0, q1, q2, q3, q4, q5, q6⟩ := HS1.out W (Hb2.out.trans (hW.mono Hb2.out.size))
  obtain ⟨r0, r1, r2, r3, r4, r5, r6⟩ := HS2.out W (Hb2.out.trans (hW.mono Hb2.out.size))
  exact ⟨p0, p1, p2, p3, p4, p5, q0, q1, q2, q3, q4, q5, r0, r1, r2, r3, r4, r5, p6, q6⟩))
 have HR1 := Lhd (show ∀ W, Below w2.heap.size w2 W → Calls Tryz.prog 176 #[.agg #[.int .i64 a1.op, .int .i64 a1.n, .string a1.s, .string a1.name, .string a1.src, .slice A1 m1 c1], .int .i64 5] W fun e w' => e = .returned (.string S1) ∧ Below w2.heap.size w2 w' from HD1.out.at_ Hb2.out)
 have HR2 := Lhd (show ∀ W, Below w2.heap.size w2 W → Calls Tryz.prog 176 #[.agg #[.int .i64 a2.op, .int .i64 a2.n, .string a2.s, .string a2.name, .string a2.src, .slice A2 m2 c2], .int .i64 5] W fun e w' => e = .returned (.string S2) ∧ Below w2.heap.size w2 w' from HD2.out.at_ Hb2.out)
 have hrf : Below w2.heap.size w2 w2 := Below.refl _ _
 clear x0 x1 x2 x3 x4 x5 xl hb2
 go_upto_region 21 with (fail)
 clear y0 y1 y2 y3 y4 y5 yl
 obtain ⟨x0, x1, x2, x3, x4, x5, z0, z1, z2, z3, z4, z5, v0, v1, v2, v3, v4, v5, xl, zl⟩ := HS.out w2 hrf
 go_region_held3 (fun W => W.cell? ⟨w.heap.size, 0, none⟩ = some (.int .i64 op) ∧ W.cell? ⟨w.heap.size, 1, none⟩ = some (.int .i64 n) ∧ W.cell? ⟨w.heap.size, 2, none⟩ = some (.string s) ∧ W.cell? ⟨w.heap.size, 3, none⟩ = some (.string name) ∧ W.cell? ⟨w.heap.size, 4, none⟩ = some (.string src) ∧ W.cell? ⟨w.heap.size, 5, none⟩ = some (.slice (some ⟨b, o, none⟩) 2 c) ∧ W.cell? ⟨b, o, none⟩ = some (.int .i64 a1.op) ∧ W.cell? ⟨b, o + 1, none⟩ = some (.int .i64 a1.n) ∧ W.cell? ⟨b, o + 2, none⟩ = some (.string a1.s) ∧ W.cell? ⟨b, o + 3, none⟩ = some (.string a1.name) ∧ W.cell? ⟨b, o + 4, none⟩ = some (.string a1.src) ∧ W.cell? ⟨b, o + 5, none⟩ = some (.slice A1 m1 c1) ∧ W.cell? ⟨b, o + 6, none⟩ = some (.int .i64 a2.op) ∧ W.cell? ⟨b, o + 6 + 1, none⟩ = some (.int .i64 a2.n) ∧ W.cell? ⟨b, o + 6 + 2, none⟩ = some (.string a2.s) ∧ W.cell? ⟨b, o + 6 + 3, none⟩ = some (.string a2.name) ∧ W.cell? ⟨b, o + 6 + 4, none⟩ = some (.string a2.src) ∧ W.cell? ⟨b, o + 6 + 5, none⟩ = some (.slice A2 m2 c2) ∧ w.heap.size < W.heap.size ∧ b < W.heap.size) (first | assumption | exact HS.out _ (by assumption) | exact HS.out _ (Below.drew (by assumption)) | ((repeat' apply And.intro) <;> first | assumption | (go_simp; done))) (first | (go_at_call 176; (with_reducible refine (HR1.out _ (by first | assumption | exact Below.drew (by assumption))).mono ?_; rintro x wa ⟨rfl, hba⟩)) | (go_at_call 176; (with_reducible refine (HR2.out _ (by first | assumption | exact Below.drew (by assumption))).mono ?_; rintro x wb ⟨rfl, hbb⟩)))
 clear x0 x1 x2 x3 x4 x5 z0 z1 z2 z3 z4 z5 v0 v1 v2 v3 v4 v5
 all_goals
  have HB := Lhd (And.intro hba hbb)
  clear hba hbb
  go_wp2
  go_ret
  exact ⟨ret_str (by simp [ByteArray.data_append]), by first | exact Hb2.out.trans (HB.out.1.mono Hb2.out.size) | exact Hb2.out.trans (HB.out.2.mono Hb2.out.size)⟩
theorem refx_two (op n : Int) (s name src : ByteArray) (b o c : Nat) (a1 a2 : Ex) (A1 A2 : Option Addr) (m1 c1 m2 c2 : Nat) (S1 S2 : ByteArray) (w : World) (h6 : 6 ≤ op) (h18 : op ≤ 18) (lv : Int) (hlv : lvlZ op = lv) (h4 : lv ≠ 4) (h3 : lv ≠ 3) (h7 : lv ≠ 7) (hl1 : 1 ≤ lv) (hl8 : lv ≤ 8) (hbl : b < w.heap.size)
  (hS1 : Six w b o a1 A1 m1 c1) (hD1 : RTx w 176 #[.agg (rowOf a1 A1 m1 c1).toArray, .int .i64 lv] S1) (hlen1 : S1.size ≤ 1000000000) (hS2 : Six w b (o + 6) a2 A2 m2 c2) (hD2 : RTx w 176 #[.agg (rowOf a2 A2 m2 c2).toArray, .int .i64 (lv + 1)] S2) (hlen2 : S2.size ≤ 1000000000) :
  Calls Tryz.prog 139 #[.agg #[.int .i64 op, .int .i64 n, .string s, .string name, .string src, .slice (some ⟨b, o, none⟩) 2 c]] w fun e' w' => e' = .returned (.string ⟨(S1.data.toList ++ ([32] ++ sgnL op ++ [32]) ++ S2.data.toList).toArray⟩) ∧ Below w.heap.size w w' := by
 obtain ⟨G, hG, hGs, hb0⟩ := bind_op op (by omega) (by omega)
 rw [← hG]
 rw [hlv] at hb0
 have Hsg := Lhd hb0
 have n1 : (op == 1) = false := by simp; omega
 have n2 : (op == 2) = false := by simp; omega
 have n3 : (op == 3) = false := by simp; omega
 have n4 : (op == 4) = false := by simp; omega
 have n5 : (op == 5) = false := by simp; omega
 have n21 : decide ((21 : Int) ≤ op) = false := by simp; omega
 have q3 : (lv == 3) = false := by simp; omega
 have q7 : (lv == 7) = false := by simp; omega
 have q4 : (lv == 4) = false := by simp; omega
 have i1 : IntKind.i64.wrap (lv + 1) = lv + 1 := by simp only [IntKind.wrap, IntKind.bits, IntKind.signed]; simp; omega
 have p1 : ¬ 9223372036854775807 < S1.size + 1 := by omega
 have p2 : ¬ 9223372036854775807 < S1.size + 1 + G.size := by omega
 have p3 : ¬ 9223372036854775807 < S1.size + 1 + G.size + 1 := by omega
 have p4 : ¬ 9223372036854775807 < S1.size + 1 + G.size + 1 + S2.size := by omega
 have HS1 := Lhd (fun W (hW : Below w.heap.size w W) => hS1.later hbl hW)
 have HD1 := Lhd hD1
 have HS2 := Lhd (fun W (hW : Below w.heap.size w W) => hS2.later hbl hW)
 have HD2 := Lhd hD2
 clear hb0 hlv hG hGs hlen1 hS1 hD1 hlen2 hS2 hD2 hbl h6 h18 h4 h3 h7 hl1 hl8
 obtain ⟨w1, Hw1⟩ : ∃ w1, Hid (w1 = w.alloc (.cells #[.int .i64 op, .int .i64 n, .string s, .string name, .string src, .slice (some ⟨b, o, none⟩) 2 c] 32)) := ⟨_, rfl⟩
 have hb1 : Below w.heap.size w w1 := by rw [Hw1.out]; exact (Below.refl _ _).alloc (Nat.le_refl _) _
 have hk1 : IsBlk w1 w.heap.size 32 #[.int .i64 op, .int .i64 n, .string s, .string name, .string src, .slice (some ⟨b, o, none⟩) 2 c] := by rw [Hw1.out]; exact IsBlk.laid _ _ _
 have Hx := Lhd (fun W (hW : Below w1.heap.size w1 W) => box6 (hk1.as_was (hW.block _ hk1.lt)))
 have Hb1 := Lhd hb1
 obtain ⟨x0, x1, x2, x3, x4, x5, xl⟩ := Hx.out _ (Below.refl _ _)
 clear hb1 hk1
 go_enter Tryz.func139, Tryz.ntmps139
 go_upto_region 1 with (fail)
 rw [← Hw1.out]
 go_wp2_with (go_at_call 174; refine (Hsg.out _).mono ?_)
 rintro x w2 ⟨rfl, hb2⟩
 obtain ⟨y0, y1, y2, y3, y4, y5, yl⟩ := Hx.out _ hb2
 have Hb2 := Lhd (Hb1.out.trans (hb2.mono Hb1.out.size))
 have Hb12 := Lhd hb2
 have HS := Lhd (fun W (hW : Below w2.heap.size w2 W) => (show W.cell? ⟨w.heap.size, 0, none⟩ = some (.int .i64 op) ∧ W.cell? ⟨w.heap.size, 1, none⟩ = some (.int .i64 n) ∧ W.cell? ⟨w.heap.size, 2, none⟩ = some (.string s) ∧ W.cell? ⟨w.heap.size, 3, none⟩ = some (.string name) ∧ W.cell? ⟨w.heap.size, 4, none⟩ = some (.string src) ∧ W.cell? ⟨w.heap.size, 5, none⟩ = some (.slice (some ⟨b, o, none⟩) 2 c) ∧ W.cell? ⟨b, o, none⟩ = some (.int .i64 a1.op) ∧ W.cell? ⟨b, o + 1, none⟩ = some (.int .i64 a1.n) ∧ W.cell? ⟨b, o + 2, none⟩ = some (.string a1.s) ∧ W.cell? ⟨b, o + 3, none⟩ = some (.string a1.name) ∧ W.cell? ⟨b, o + 4, none⟩ = some (.string a1.src) ∧ W.cell? ⟨b, o + 5, none⟩ = some (.slice A1 m1 c1) ∧ W.cell? ⟨b, o + 6, none⟩ = some (.int .i64 a2.op) ∧ W.cell? ⟨b, o + 6 + 1, none⟩ = some (.int .i64 a2.n) ∧ W.cell? ⟨b, o + 6 + 2, none⟩ = some (.string a2.s) ∧ W.cell? ⟨b, o + 6 + 3, none⟩ = some (.string a2.name) ∧ W.cell? ⟨b, o + 6 + 4, none⟩ = some (.string a2.src) ∧ W.cell? ⟨b, o + 6 + 5, none⟩ = some (.slice A2 m2 c2) ∧ w.heap.size < W.heap.size ∧ b < W.heap.size from by
  obtain ⟨p0, p1, p2, p3, p4, p5, p6⟩ := Hx.out W (Hb12.out.trans (hW.mono Hb12.out.size))
  obtain ⟨q0, q1, q2, q3, q4, q5, q6⟩ := HS1.out W (Hb2.out.trans (hW.mono Hb2.out.size))
  obtain ⟨r0, r1, r2, r3, r4, r5, r6⟩ := HS2.out W (Hb2.out.trans (hW.mono Hb2.out.size))
  exact ⟨p0, p1, p2, p3, p4, p5, q0, q1, q2, q3, q4, q5, r0, r1, r2, r3, r4, r5, p6, q6⟩))
 have HR1 := Lhd (show ∀ W, Below w2.heap.size w2 W → Calls Tryz.prog 176 #[.agg #[.int .i64 a1.op, .int .i64 a1.n, .string a1.s, .string a1.name, .string a1.src, .slice A1 m1 c1], .int .i64 lv] W fun e w' => e = .returned (.string S1) ∧ Below w2.heap.size w2 w' from HD1.out.at_ Hb2.out)
 have HR2 := Lhd (show ∀ W, Below w2.heap.size w2 W → Calls Tryz.prog 176 #[.agg #[.int .i64 a2.op, .int .i64 a2.n, .string a2.s, .string a2.name, .string a2.src, .slice A2 m2 c2], .int .i64 (lv + 1)] W fun e w' => e = .returned (.string S2) ∧ Below w2.heap.size w2 w' from HD2.out.at_ Hb2.out)
 have hrf : Below w2.heap.size w2 w2 := Below.refl _ _
 clear x0 x1 x2 x3 x4 x5 xl hb2
 go_upto_region 22 with (fail)
 clear y0 y1 y2 y3 y4 y5 yl
 obtain ⟨x0, x1, x2, x3, x4, x5, z0, z1, z2, z3, z4, z5, v0, v1, v2, v3, v4, v5, xl, zl⟩ := HS.out w2 hrf
 go_region_held3 (fun W => W.cell? ⟨w.heap.size, 0, none⟩ = some (.int .i64 op) ∧ W.cell? ⟨w.heap.size, 1, none⟩ = some (.int .i64 n) ∧ W.cell? ⟨w.heap.size, 2, none⟩ = some (.string s) ∧ W.cell? ⟨w.heap.size, 3, none⟩ = some (.string name) ∧ W.cell? ⟨w.heap.size, 4, none⟩ = some (.string src) ∧ W.cell? ⟨w.heap.size, 5, none⟩ = some (.slice (some ⟨b, o, none⟩) 2 c) ∧ W.cell? ⟨b, o, none⟩ = some (.int .i64 a1.op) ∧ W.cell? ⟨b, o + 1, none⟩ = some (.int .i64 a1.n) ∧ W.cell? ⟨b, o + 2, none⟩ = some (.string a1.s) ∧ W.cell? ⟨b, o + 3, none⟩ = some (.string a1.name) ∧ W.cell? ⟨b, o + 4, none⟩ = some (.string a1.src) ∧ W.cell? ⟨b, o + 5, none⟩ = some (.slice A1 m1 c1) ∧ W.cell? ⟨b, o + 6, none⟩ = some (.int .i64 a2.op) ∧ W.cell? ⟨b, o + 6 + 1, none⟩ = some (.int .i64 a2.n) ∧ W.cell? ⟨b, o + 6 + 2, none⟩ = some (.string a2.s) ∧ W.cell? ⟨b, o + 6 + 3, none⟩ = some (.string a2.name) ∧ W.cell? ⟨b, o + 6 + 4, none⟩ = some (.string a2.src) ∧ W.cell? ⟨b, o + 6 + 5, none⟩ = some (.slice A2 m2 c2) ∧ w.heap.size < W.heap.size ∧ b < W.heap.size) (first | assumption | exact HS.out _ (by assumption) | exact HS.out _ (Below.drew (by assumption)) | ((repeat' apply And.intro) <;> first | assumption | (go_simp; done))) (first | (go_at_call 176; (with_reducible refine (HR1.out _ (by first | assumption | exact Below.drew (by assumption))).mono ?_; rintro x wa ⟨rfl, hba⟩)) | (go_at_call 176; (with_reducible refine (HR2.out _ (by first | assumption | exact Below.drew (by assumption))).mono ?_; rintro x wb ⟨rfl, hbb⟩)))
 clear x0 x1 x2 x3 x4 x5 z0 z1 z2 z3 z4 z5 v0 v1 v2 v3 v4 v5
 all_goals
  have HB := Lhd (And.intro hba hbb)
  clear hba hbb
  go_wp2
  go_ret
  exact ⟨ret_str (by simp [ByteArray.data_append]), by first | exact Hb2.out.trans (HB.out.1.mono Hb2.out.size) | exact Hb2.out.trans (HB.out.2.mono Hb2.out.size)⟩
theorem opnd_ge (least op : Int) (t : List UInt8) : t.length ≤ (opnd least op t).length := by
 unfold opnd
 split
 ·simp only [List.length_append, List.length_cons, List.length_nil]; omega
 ·exact Nat.le_refl _
theorem rowsT_ge {d : Nat} {a : Ex} {name src : ByteArray} : (txtE d a).length ≤ (rowsT name src a.op a.n (txtE d a)).length + 5 := by
 unfold rowsT whereT
 split
 ·rename_i h
  obtain ⟨h1, h2⟩ := h
  cases d with
  | zero => exact Nat.zero_le _
  | succ d =>
   obtain ⟨op, n, s, nm, sr, args⟩ := a
   have h1 : op = 3 := h1
   have h2 : n = 1 := h2
   subst h1 h2
   have : (txtE (d + 1) (.mk 3 1 s nm sr args)).length = 4 := rfl
   omega
 ·simp only [List.length_append, List.length_cons, List.length_nil]; omega
theorem in_texts {F : Nat → Prop} {d : Nat} {w : World} (hE : RefC F d) {a : Ex} {A : Option Addr} {m c : Nat} (least : Int) (hx : ExAt F d w (rowOf a A m c) a) (hb : builtE d a = true) (hl : (opnd least a.op (txtE d a)).length ≤ 1000000000) :
  RTx w 176 #[.agg (rowOf a A m c).toArray, .int .i64 least] ⟨(opnd least a.op (txtE d a)).toArray⟩ :=
 fun W hW => refIn_any F d hE a _ least W (hx.below hW) hb (Nat.le_trans (opnd_ge _ _ _) hl)
theorem rows_texts {F : Nat → Prop} {d : Nat} {w : World} (hE : RefC F d) {a : Ex} {A : Option Addr} {m c : Nat} (name src : ByteArray) (hx : ExAt F d w (rowOf a A m c) a) (hb : builtE d a = true) (hl : (txtE d a).length ≤ 1000000000) (hn : name.size ≤ 1000000) (hs : src.size ≤ 1000000) :
  RTx w 138 #[.string name, .string src, .agg (rowOf a A m c).toArray] ⟨(rowsT name src a.op a.n (txtE d a)).toArray⟩ :=
 fun W hW => rrows_any F d hE a _ name src W (hx.below hW) hb hl hn hs
theorem expr_texts {F : Nat → Prop} {d : Nat} {w : World} (hE : RefC F d) {a : Ex} {A : Option Addr} {m c : Nat} (hx : ExAt F d w (rowOf a A m c) a) (hb : builtE d a = true) (hl : (txtE d a).length ≤ 1000000000) :
  RTx w 139 #[.agg (rowOf a A m c).toArray] ⟨(txtE d a).toArray⟩ :=
 fun W hW => hE a _ W (hx.below hW) hb hl
theorem refx_leafs {F : Nat → Prop} {d : Nat} {op n : Int} {s name src : ByteArray} {args : List Ex} {row : List Value} {w : World} (hx : ExAt F (d + 1) w row (.mk op n s name src args)) (hb : builtE (d + 1) (.mk op n s name src args) = true) (h5 : op = 1 ∨ op = 2 ∨ op = 3 ∨ op = 4 ∨ op = 5) :
    Calls Tryz.prog 139 #[.agg row.toArray] w fun e' w' => e' = .returned (.string ⟨(txtE (d + 1) (.mk op n s name src args)).toArray⟩) ∧ Below w.heap.size w w' := by
  obtain ⟨ha, hf, _⟩ := fields_op hb
  obtain rfl := no_args ha h5
  obtain ⟨A, c, rfl, _, _, _⟩ := args_at hx
  obtain ⟨_, hn, _⟩ := hx.open_
  have hn : okI n := hn
  unfold okI at hn
  rw [txt_op]
  rcases h5 with rfl | rfl | rfl | rfl | rfl
  · have e : fieldsR 1 n s name src = (decide (0 ≤ n) && noS s && noS name && noS src) := rfl
    rw [e] at hf
    simp only [Bool.and_eq_true, decide_eq_true_eq] at hf
    have h0 := hf.1.1.1
    obtain ⟨N, rfl⟩ : ∃ N : Nat, n = (N : Int) := ⟨n.toNat, by omega⟩
    have h := refx_int N (by have : (10 : Nat) ^ 19 = 10000000000000000000 := by decide
                             omega) s name src A ([] : List Ex).length c w
    simpa using h
  · have e : fieldsR 2 n s name src = (decide (s.size ≤ 200) && decide (n = 0) && noS name && noS src) := rfl
    rw [e] at hf
    simp only [Bool.and_eq_true, decide_eq_true_eq] at hf
    have h2 := hf.1.1.1
    have h := refx_text n s name src A ([] : List Ex).length c w (by omega)
    simpa using h
  · have e : fieldsR 3 n s name src = ((decide (n = 0) || decide (n = 1)) && noS s && noS name && noS src) := rfl
    rw [e] at hf
    simp only [Bool.and_eq_true, Bool.or_eq_true, decide_eq_true_eq] at hf
    rcases hf.1.1.1 with rfl | rfl
    · have h := refx_false s name src A ([] : List Ex).length c w
      simpa using h
    · have h := refx_true s name src A ([] : List Ex).length c w
      simpa using h
  · have h := refx_var n s name src A ([] : List Ex).length c w
    simpa using h
  · have e : fieldsR 5 n s name src = (freeB name && freeB s && decide (n = 0) && noS src) := rfl
    rw [e] at hf
    simp only [Bool.and_eq_true] at hf
    have h1 := named_len hf.1.1.1
    have h2 := named_len hf.1.1.2
    have e1 : name.data.toList.length = name.size := rfl
    have e2 : s.data.toList.length = s.size := rfl
    have h := refx_col n s name src A ([] : List Ex).length c w (by omega) (by omega)
    simpa using h
theorem refExpr_any : ∀ (d : Nat) (F : Nat → Prop), RefC F d := by
 intro d
 induction d with
 | zero => intro F e row w hx; exact hx.elim
 | succ d ih =>
  intro F e row w hx hb hlen
  obtain ⟨o1, o2⟩ := built_op hb
  obtain ⟨op, n, s, name, src, args⟩ := e
  have o1 : 1 ≤ op := o1
  have o2 : op ≤ 24 := o2
  by_cases h5 : op ≤ 5
  ·exact refx_leafs hx hb (by omega)
  ·obtain ⟨ha, hf, hall⟩ := fields_op hb
   obtain ⟨A, c, rfl, _, _, hat⟩ := args_at hx
   have hE := ih F
   have hne : ¬ op = 2 := by omega
   rw [txt_op, if_neg (by omega), if_neg hne, if_neg (by omega), if_neg (by omega), if_neg (by omega)] at hlen ⊢
   have hnm : 21 ≤ op → name.size ≤ 1000000 ∧ src.size ≤ 1000000 := fun h21 => by
    have hr : fieldsR op n s name src = (freeB name && freeB src && decide (n = 0) && noS s) := by
     unfold fieldsR
     rw [if_neg (by omega), if_neg (by omega), if_neg (by omega), if_neg (by omega), if_neg (by omega), if_pos]
     simp [rowsB]; omega
    rw [hr] at hf
    simp only [Bool.and_eq_true] at hf
    have n1 := named_len hf.1.1.1
    have n2 := named_len hf.1.1.2
    have e1 : name.data.toList.length = name.size := rfl
    have e2 : src.data.toList.length = src.size := rfl
    omega
   rcases len_args ha (by omega) o2 with ⟨hl, hop⟩ | ⟨hl, hop⟩
   ·obtain ⟨a, rfl⟩ := List.length_eq_one_iff.1 hl
    obtain ⟨b, o, rfl, hFb, hbl, hget⟩ := hat (by simp)
    obtain ⟨A1, m1, c1, hS1, hx1⟩ := hget 0 a rfl
    have hb1 := hall a (by simp)
    have hS1 : Six w b o a A1 m1 c1 := by simpa using hS1
    by_cases h20 : op = 19 ∨ op = 20
    ·simp only [if_pos h20] at hlen ⊢
     have hl1 : (opnd (lvlZ op) a.op (txtE d a)).length ≤ 1000000000 := by rw [List.length_append] at hlen; omega
     have h := refx_one op n (lvlZ op) s name src b o c a A1 m1 c1 _ w (by rcases h20 with rfl | rfl <;> decide) hbl hS1 (in_texts hE (lvlZ op) hx1 hb1 hl1) (by rw [arr_size]; exact hl1)
     simpa using h
    ·simp only [if_neg h20] at hlen ⊢
     have h21 : op = 21 := by omega
     subst h21
     have hl1 : (rowsT name src a.op a.n (txtE d a)).length ≤ 999999994 := by
      have : (sgnL 21).length = 5 := rfl
      simp at hlen
      omega
     have hl2 := rowsT_ge (d := d) (a := a) (name := name) (src := src)
     have h := refx_21 n s name src b o c a A1 m1 c1 _ w hbl hS1 (rows_texts hE name src hx1 hb1 (by omega) (hnm (by omega)).1 (hnm (by omega)).2) (by rw [arr_size]; omega)
     simpa using h
   ·obtain ⟨a, a2, rfl⟩ : ∃ a a2, args = [a, a2] := by
     rcases args with _ | ⟨a, _ | ⟨a2, _ | ⟨a3, r⟩⟩⟩ <;> simp at hl
     exact ⟨a, a2, rfl⟩
    obtain ⟨b, o, rfl, hFb, hbl, hget⟩ := hat (by simp)
    obtain ⟨A1, m1, c1, hS1, hx1⟩ := hget 0 a rfl
    obtain ⟨A2, m2, c2, hS2, hx2⟩ := hget 1 a2 rfl
    have hb1 := hall a (by simp)
    have hb2 := hall a2 (by simp)
    have hS1 : Six w b o a A1 m1 c1 := by simpa using hS1
    have hS2 : Six w b (o + 6) a2 A2 m2 c2 := by simpa using hS2
    have h19 : ¬ (op = 19 ∨ op = 20) := by omega
    simp only [if_neg h19] at hlen ⊢
    by_cases h18 : op ≤ 18
    ·have h21 : ¬ 21 ≤ op := by omega
     simp only [if_neg h21] at hlen ⊢
     obtain ⟨l1, l2⟩ := lvlZ_bd (op := op) (by omega) (by omega)
     by_cases h4 : lvlZ op = 4
     ·simp only [if_pos h4] at hlen ⊢
      rw [h4] at hlen ⊢
      have hl1 : (opnd 5 a.op (txtE d a)).length ≤ 1000000000 := by
       have h5 : (4 : Int) + 1 = 5 := rfl
       rw [h5] at hlen
       simp only [List.length_append] at hlen; omega
      have hl2 : (opnd 5 a2.op (txtE d a2)).length ≤ 1000000000 := by
       have h5 : (4 : Int) + 1 = 5 := rfl
       rw [h5] at hlen
       simp only [List.length_append] at hlen; omega
      have h := refx_four op n s name src b o c a a2 A1 A2 m1 c1 m2 c2 _ _ w (by omega) h18 h4 hbl hS1 (in_texts hE 5 hx1 hb1 hl1) (by rw [arr_size]; exact hl1) hS2 (in_texts hE 5 hx2 hb2 hl2) (by rw [arr_size]; exact hl2)
      simpa using h
     ·simp only [if_neg h4] at hlen ⊢
      rw [Int.add_zero] at hlen ⊢
      have hl1 : (opnd (lvlZ op) a.op (txtE d a)).length ≤ 1000000000 := by simp only [List.length_append] at hlen; omega
      have hl2 : (opnd (lvlZ op + 1) a2.op (txtE d a2)).length ≤ 1000000000 := by simp only [List.length_append] at hlen; omega
      have h37 : lvlZ op ≠ 3 ∧ lvlZ op ≠ 7 := by
       have h : op = 6 ∨ op = 7 ∨ op = 8 ∨ op = 9 ∨ op = 10 ∨ op = 11 ∨ op = 12 ∨ op = 13 ∨ op = 14 ∨ op = 15 ∨ op = 16 ∨ op = 17 ∨ op = 18 := by omega
       rcases h with rfl | rfl | rfl | rfl | rfl | rfl | rfl | rfl | rfl | rfl | rfl | rfl | rfl <;> decide
      have h := refx_two op n s name src b o c a a2 A1 A2 m1 c1 m2 c2 _ _ w (by omega) h18 (lvlZ op) rfl h4 h37.1 h37.2 l1 l2 hbl hS1 (in_texts hE _ hx1 hb1 hl1) (by rw [arr_size]; exact hl1) hS2 (in_texts hE _ hx2 hb2 hl2) (by rw [arr_size]; exact hl2)
      simpa using h
    ·have h21 : 21 ≤ op := by omega
     have hn21 : ¬ op = 21 := by omega
     simp only [if_pos h21, if_neg hn21] at hlen ⊢
     have hr2 := rowsT_ge (d := d) (a := a) (name := name) (src := src)
     have hl1 : (rowsT name src a.op a.n (txtE d a)).length ≤ 999999994 ∧ (txtE d a2).length ≤ 1000000000 := by
      have hs : (sgnL op).length = 3 := by
       have h : op = 22 ∨ op = 23 ∨ op = 24 := by omega
       rcases h with rfl | rfl | rfl <;> rfl
      simp only [List.length_append, List.length_cons, List.length_nil] at hlen
      omega
     have hq := rows_texts hE name src hx1 hb1 (by omega) (hnm (by omega)).1 (hnm (by omega)).2
     have hq2 := expr_texts hE hx2 hb2 hl1.2
     have hop : op = 22 ∨ op = 23 ∨ op = 24 := by omega
     rcases hop with rfl | rfl | rfl
     ·have h := refx_22 n s name src b o c a a2 A1 A2 m1 c1 m2 c2 _ _ w hbl hS1 hq (by rw [arr_size]; omega) hS2 hq2 (by rw [arr_size]; omega)
      simpa using h
     ·have h := refx_23 n s name src b o c a a2 A1 A2 m1 c1 m2 c2 _ _ w hbl hS1 hq (by rw [arr_size]; omega) hS2 hq2 (by rw [arr_size]; omega)
      simpa using h
     ·have h := refx_24 n s name src b o c a a2 A1 A2 m1 c1 m2 c2 _ _ w hbl hS1 hq (by rw [arr_size]; omega) hS2 hq2 (by rw [arr_size]; omega)
      simpa using h
abbrev sNil : ByteArray := ⟨#[]⟩
abbrev vars (nm : ByteArray) : Ex := .mk 4 0 sNil nm sNil []
abbrev opx (op : Int) (l : List Ex) : Ex := .mk op 0 sNil sNil sNil l
abbrev varRow (nm : ByteArray) : List Value := [.int .i64 4, .int .i64 0, .string sNil, .string nm, .string sNil, .slice none 0 0]
abbrev opRow (op : Int) (A : Option Addr) (n : Nat) : List Value := [.int .i64 op, .int .i64 0, .string sNil, .string sNil, .string sNil, .slice A n n]
abbrev ex1 : Ex := opx 19 [opx 11 [vars ⟨#[120]⟩, vars ⟨#[121]⟩]]
abbrev ex2 : Ex := opx 11 [opx 19 [vars ⟨#[120]⟩], vars ⟨#[121]⟩]
theorem ex1_said : exprS 3 ex1 = ([110, 111, 116, 32, 120, 32, 61, 32, 121], 0) := by decide +kernel
theorem ex2_said : exprS 3 ex2 = ([40, 110, 111, 116, 32, 120, 41, 32, 61, 32, 121], 0) := by decide +kernel
theorem ex1_len : (txtE 3 ex1).length ≤ 1000000000 := by decide +kernel
theorem ex2_len : (txtE 3 ex2).length ≤ 1000000000 := by decide +kernel
theorem exs_of {F : Nat → Prop} {d n c : Nat} {W : World} {A : Option Addr} {rows : List (List Value)} {es : List Ex} (hr : RowsAt W 6 A n c rows) (hF : ∀ a, A = some a → 0 < n → F a.block) (hl : rows.length = es.length) (h : ∀ (k : Nat) (r : List Value) (x : Ex), rows[k]? = some r → es[k]? = some x → ExAt F d W r x) : ExsAt F d W A n c es :=
 ⟨rows, hr, hF, hl, fun k r x h1 h2 => ⟨(h k r x h1 h2).len, h k r x h1 h2⟩⟩
theorem okS_nil : okS sNil := by unfold okS; decide +kernel
theorem ex_var {F : Nat → Prop} {d : Nat} {W : World} {nm : ByteArray} (h : okS nm) : ExAt F (d + 1) W (varRow nm) (vars nm) :=
 ⟨(by unfold okI; decide : okI 4), (by unfold okI; decide : okI 0), okS_nil, h, okS_nil, none, 0, 0, rfl, LsAt.nil_ _ _ _ _⟩
theorem ex_opx {F : Nat → Prop} {d : Nat} {W : World} {op : Int} {A : Option Addr} {n : Nat} {es : List Ex} (h0 : 0 ≤ op) (h1 : op ≤ 100) (h : ExsAt F d W A n n es) : ExAt F (d + 1) W (opRow op A n) (opx op es) :=
  ⟨by unfold okI; have : (opx op es).op = op := rfl
      omega, (by unfold okI; decide : okI 0), okS_nil, okS_nil, okS_nil, A, n, n, rfl, h⟩
theorem exs_one {F : Nat → Prop} {d : Nat} {w : World} {g : Nat} (T : TypeId) {r : List Value} {e : Ex} (hg : g = w.heap.size) (hF : F g) (h : ExAt F d (w.alloc (.cells r.toArray T)) r e) : ExsAt F d (w.alloc (.cells r.toArray T)) (some ⟨g, 0, none⟩) 1 1 [e] := by
 have h6 := h.len
 refine exs_of (rows := [r]) (RowsAt.lit' _ _ 1 hg (by simp) (by simpa using h6) (by simp) (by unfold maxLen; omega)) (fun a ha _ => by cases ha; exact hF) rfl (fun k r x h1 h2 => ?_)
 cases k with
 | zero => simp at h1 h2; subst h1 h2; exact h
 | succ k => simp at h1
theorem exs_two {F : Nat → Prop} {d : Nat} {w : World} {g : Nat} (T : TypeId) {r r2 : List Value} {e e2 : Ex} (hg : g = w.heap.size) (hF : F g) (h : ExAt F d (w.alloc (.cells (r ++ r2).toArray T)) r e) (h2 : ExAt F d (w.alloc (.cells (r ++ r2).toArray T)) r2 e2) : ExsAt F d (w.alloc (.cells (r ++ r2).toArray T)) (some ⟨g, 0, none⟩) 2 2 [e, e2] := by
 have h6 := h.len
 have h62 := h2.len
 refine exs_of (rows := [r, r2]) (RowsAt.lit' _ _ 2 hg (by simp) (by simp [h6, h62]) (by simp) (by unfold maxLen; omega)) (fun a ha _ => by cases ha; exact hF) rfl (fun k q x q1 q2 => ?_)
 rcases k with _ | _ | k
 ·simp at q1 q2; subst q1 q2; exact h
 ·simp at q1 q2; subst q1 q2; exact h2
 ·simp at q1
theorem laid_lt (w : World) (o : Obj) : Below w.heap.size w (w.alloc o) := (Below.refl _ _).alloc (Nat.le_refl _) _
theorem say1 (w : World) (hm : HasMax w) (hg : 0 < w.heap.size) (g1 g2 : Nat) (h1 : g1 = w.heap.size) (h2 : g2 = w.heap.size + 1) : Calls Tryz.prog 10 #[.agg #[.int .i64 19, .int .i64 0, .string ⟨#[]⟩, .string ⟨#[]⟩, .string ⟨#[]⟩, .slice (some ⟨g2, 0, none⟩) 1 1]] ((w.alloc (.cells #[.int .i64 4, .int .i64 0, .string ⟨#[]⟩, .string ⟨#[120]⟩, .string ⟨#[]⟩, .slice none 0 0, .int .i64 4, .int .i64 0, .string ⟨#[]⟩, .string ⟨#[121]⟩, .string ⟨#[]⟩, .slice none 0 0] 32)).alloc (.cells #[.int .i64 11, .int .i64 0, .string ⟨#[]⟩, .string ⟨#[]⟩, .string ⟨#[]⟩, .slice (some ⟨g1, 0, none⟩) 2 2] 32)) fun x w' => x = .returned (.tuple #[.string ⟨#[110, 111, 116, 32, 120, 32, 61, 32, 121]⟩, .int .i64 0]) ∧ Below w.heap.size w w' := by
 have ha : ExsAt (fun k => k < w.heap.size + 2) 1 (w.alloc (.cells (varRow ⟨#[120]⟩ ++ varRow ⟨#[121]⟩).toArray 32)) (some ⟨g1, 0, none⟩) 2 2 [vars ⟨#[120]⟩, vars ⟨#[121]⟩] := exs_two _ h1 (by omega) (ex_var (by unfold okS; decide +kernel)) (ex_var (by unfold okS; decide +kernel))
 have hb := exs_one (F := fun k => k < w.heap.size + 2) (d := 2) (w := w.alloc (.cells (varRow ⟨#[120]⟩ ++ varRow ⟨#[121]⟩).toArray 32)) (g := g2) 32 (r := opRow 11 (some ⟨g1, 0, none⟩) 2) (e := opx 11 [vars ⟨#[120]⟩, vars ⟨#[121]⟩]) (by simp [h2]) (by omega) (ex_opx (by decide) (by decide) (ha.below (laid_lt _ _)))
 have hx := ex_opx (op := 19) (by decide) (by decide) hb
 have hlow := (laid_lt w (.cells (varRow ⟨#[120]⟩ ++ varRow ⟨#[121]⟩).toArray 32)).alloc (by simp) (.cells (opRow 11 (some ⟨g1, 0, none⟩) 2).toArray 32)
 have h := printExpr_any (fun k => k < w.heap.size + 2) 3 ex1 _ _ hx (by decide) (fun k hk => by simp; omega) (hm.below hg hlow) (fun _ => ex1_len)
 rw [ex1_said] at h
 refine h.mono ?_
 rintro x w' ⟨rfl, hw⟩
 exact ⟨rfl, hlow.trans (hw.mono hlow.size)⟩
theorem say2 (w : World) (hm : HasMax w) (hg : 0 < w.heap.size) (g1 g2 : Nat) (h1 : g1 = w.heap.size) (h2 : g2 = w.heap.size + 1) : Calls Tryz.prog 10 #[.agg #[.int .i64 11, .int .i64 0, .string ⟨#[]⟩, .string ⟨#[]⟩, .string ⟨#[]⟩, .slice (some ⟨g2, 0, none⟩) 2 2]] ((w.alloc (.cells #[.int .i64 4, .int .i64 0, .string ⟨#[]⟩, .string ⟨#[120]⟩, .string ⟨#[]⟩, .slice none 0 0] 32)).alloc (.cells #[.int .i64 19, .int .i64 0, .string ⟨#[]⟩, .string ⟨#[]⟩, .string ⟨#[]⟩, .slice (some ⟨g1, 0, none⟩) 1 1, .int .i64 4, .int .i64 0, .string ⟨#[]⟩, .string ⟨#[121]⟩, .string ⟨#[]⟩, .slice none 0 0] 32)) fun x w' => x = .returned (.tuple #[.string ⟨#[40, 110, 111, 116, 32, 120, 41, 32, 61, 32, 121]⟩, .int .i64 0]) ∧ Below w.heap.size w w' := by
 have ha : ExsAt (fun k => k < w.heap.size + 2) 1 (w.alloc (.cells (varRow ⟨#[120]⟩).toArray 32)) (some ⟨g1, 0, none⟩) 1 1 [vars ⟨#[120]⟩] := exs_one _ h1 (by omega) (ex_var (by unfold okS; decide +kernel))
 have hb := exs_two (F := fun k => k < w.heap.size + 2) (d := 2) (w := w.alloc (.cells (varRow ⟨#[120]⟩).toArray 32)) (g := g2) 32 (r := opRow 19 (some ⟨g1, 0, none⟩) 1) (e := opx 19 [vars ⟨#[120]⟩]) (r2 := varRow ⟨#[121]⟩) (e2 := vars ⟨#[121]⟩) (by simp [h2]) (by omega) (ex_opx (by decide) (by decide) (ha.below (laid_lt _ _))) (ex_var (by unfold okS; decide +kernel))
 have hx := ex_opx (op := 11) (by decide) (by decide) hb
 have hlow := (laid_lt w (.cells (varRow ⟨#[120]⟩).toArray 32)).alloc (by simp) (.cells (opRow 19 (some ⟨g1, 0, none⟩) 1 ++ varRow ⟨#[121]⟩).toArray 32)
 have h := printExpr_any (fun k => k < w.heap.size + 2) 3 ex2 _ _ hx (by decide) (fun k hk => by simp; omega) (hm.below hg hlow) (fun _ => ex2_len)
 rw [ex2_said] at h
 refine h.mono ?_
 rintro x w' ⟨rfl, hw⟩
 exact ⟨rfl, hlow.trans (hw.mono hlow.size)⟩
theorem awakeP_any (w : World) (hm : HasMax w) : Calls Tryz.prog 8 #[] w fun x w' => x = .returned (.bool true) ∧ Below w.heap.size w w' := by
 obtain ⟨w2, Hw2⟩ : ∃ w2, Hid (w2 = ((w.alloc (.cells #[.int .i64 4, .int .i64 0, .string ⟨#[]⟩, .string ⟨#[120]⟩, .string ⟨#[]⟩, .slice none 0 0] 32)).alloc (.cells #[.int .i64 4, .int .i64 0, .string ⟨#[]⟩, .string ⟨#[121]⟩, .string ⟨#[]⟩, .slice none 0 0] 32))) := ⟨_, rfl⟩
 have hb2 : Below w.heap.size w w2 := by rw [Hw2.out]; exact (laid_lt _ _).alloc (by simp) _
 have hx2 : IsBlk w2 w.heap.size 32 #[.int .i64 4, .int .i64 0, .string ⟨#[]⟩, .string ⟨#[120]⟩, .string ⟨#[]⟩, .slice none 0 0] := by rw [Hw2.out]; exact (IsBlk.laid _ _ _).as_was ((laid_lt _ _).block _ (by simp))
 have hy2 : IsBlk w2 (w.heap.size + 1) 32 #[.int .i64 4, .int .i64 0, .string ⟨#[]⟩, .string ⟨#[121]⟩, .string ⟨#[]⟩, .slice none 0 0] := by rw [Hw2.out]; exact laid_at (by simp) _ _
 have Hx := Lhd (fun W (hW : Below w2.heap.size w2 W) => box6 (hx2.as_was (hW.block _ hx2.lt)))
 have Hy := Lhd (fun W (hW : Below w2.heap.size w2 W) => box6 (hy2.as_was (hW.block _ hy2.lt)))
 have hmg := Nat.lt_of_lt_of_le hm.lt hb2.size
 have H1 := Lhd (say1 w2 (hm.below hm.lt hb2) hmg w2.heap.size (w2.heap.size + 1) rfl rfl)
 have H2 := Lhd (fun W (hW : Below w2.heap.size w2 W) => say2 W ((hm.below hm.lt hb2).below hmg hW) (Nat.lt_of_lt_of_le hmg hW.size) W.heap.size (W.heap.size + 1) rfl rfl)
 obtain ⟨x0, x1, x2, x3, x4, x5, xl⟩ := Hx.out _ (Below.refl _ _)
 obtain ⟨y0, y1, y2, y3, y4, y5, yl⟩ := Hy.out _ (Below.refl _ _)
 have Hb2 := Lhd hb2
 clear hb2 hx2 hy2 hmg hm
 go_enter Tryz.func8, Tryz.ntmps8
 go_upto_region 3 with (fail)
 rw [← Hw2.out]
 go_wp2_with (go_at_call 10; refine H1.out.mono ?_)
 rintro x w3 ⟨rfl, hb3⟩
 obtain ⟨u0, u1, u2, u3, u4, u5, ul⟩ := Hx.out _ hb3
 obtain ⟨v0, v1, v2, v3, v4, v5, vl⟩ := Hy.out _ hb3
 have H3 := Lhd (H2.out _ hb3)
 have Hb3 := Lhd hb3
 clear hb3 x0 x1 x2 x3 x4 x5 xl y0 y1 y2 y3 y4 y5 yl
 go_wp2_with (go_at_call 10; refine H3.out.mono ?_)
 rintro x w4 ⟨rfl, hb4⟩
 have Hb4 := Lhd (Hb2.out.trans ((Hb3.out.trans (hb4.mono Hb3.out.size)).mono Hb2.out.size))
 clear hb4
 go_wp2
 go_ret
 exact ⟨ret_b (by simp), Hb4.out⟩
end Go.Proofs.YtmgldjpdhpopnaaGreatDoor
