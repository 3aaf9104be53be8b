/- Parts of this proof, one behind the other: PrtY4. -/
import Derived.Deep.RegionHeld3
import Derived.Test.YthiimingnmbgmaaDoorPe40
namespace Go.Proofs.YthiimingnmbgmaaDoor
open Go.RowKit Go.Afx

set_option maxRecDepth 20000 in
set_option maxHeartbeats 4000000 in
theorem refx_four (op n : Int) (s name src : ByteArray) (b o c : Nat) (a1 a2 : Ex) (A1 A2 : Option Addr) (m1 c1 m2 c2 : Nat) (S1 S2 : ByteArray) (w : World) (h6 : 6 ≤ op) (h18 : op ≤ 18) (hlv : lvlZ op = 4) (hbl : b < w.heap.size)
    (hS1 : Six w b o a1 A1 m1 c1) (hD1 : RTx w 23 #[.agg (rowOf a1 A1 m1 c1).toArray, .int .i64 5] S1) (hlen1 : S1.size ≤ 1000000000) (hS2 : Six w b (o + 6) a2 A2 m2 c2) (hD2 : RTx w 23 #[.agg (rowOf a2 A2 m2 c2).toArray, .int .i64 5] S2) (hlen2 : S2.size ≤ 1000000000) :
    Calls Tryd.prog 10 #[.agg #[.int .i64 op, .int .i64 n, .string s, .string name, .string src, .slice (some ⟨b, o, none⟩) 2 c]] w fun e' w' => e' = .returned (.string ⟨(S1.data.toList ++ ([32] ++ sgnL op ++ [32]) ++ S2.data.toList).toArray⟩) ∧ Below w.heap.size w w' := by
  obtain ⟨G, hG, hGs, hb0⟩ := bind_op op (by omega) (by omega)
  rw [← hG]
  rw [hlv] at hb0
  have Hsg := Lib.hid hb0
  have n1 : (op == 1) = false := by simp; omega
  have n2 : (op == 2) = false := by simp; omega
  have n3 : (op == 3) = false := by simp; omega
  have n4 : (op == 4) = false := by simp; omega
  have n5 : (op == 5) = false := by simp; omega
  have n21 : decide ((21 : Int) ≤ op) = false := by simp; omega
  have p1 : ¬ 9223372036854775807 < S1.size + 1 := by omega
  have p2 : ¬ 9223372036854775807 < S1.size + 1 + G.size := by omega
  have p3 : ¬ 9223372036854775807 < S1.size + 1 + G.size + 1 := by omega
  have p4 : ¬ 9223372036854775807 < S1.size + 1 + G.size + 1 + S2.size := by omega
  have HS1 := Lib.hid (fun W (hW : Below w.heap.size w W) => hS1.later hbl hW)
  have HD1 := Lib.hid hD1
  have HS2 := Lib.hid (fun W (hW : Below w.heap.size w W) => hS2.later hbl hW)
  have HD2 := Lib.hid hD2
  clear hb0 hlv hG hGs hlen1 hS1 hD1 hlen2 hS2 hD2 hbl h6 h18
  obtain ⟨w1, Hw1⟩ : ∃ w1, Hid (w1 = w.alloc (.cells #[.int .i64 op, .int .i64 n, .string s, .string name, .string src, .slice (some ⟨b, o, none⟩) 2 c] 35)) := ⟨_, rfl⟩
  have hb1 : Below w.heap.size w w1 := by rw [Hw1.out]; exact (Below.refl _ _).alloc (Nat.le_refl _) _
  have hk1 : IsBlk w1 w.heap.size 35 #[.int .i64 op, .int .i64 n, .string s, .string name, .string src, .slice (some ⟨b, o, none⟩) 2 c] := by rw [Hw1.out]; exact IsBlk.laid _ _ _
  have Hx := Lib.hid (fun W (hW : Below w1.heap.size w1 W) => box6 (hk1.as_was (hW.block _ hk1.lt)))
  have Hb1 := Lib.hid hb1
  obtain ⟨x0, x1, x2, x3, x4, x5, xl⟩ := Hx.out _ (Below.refl _ _)
  clear hb1 hk1
  go_enter Tryd.func10, Tryd.ntmps10
  go_upto_region 1 with (fail)
  rw [← Hw1.out]
  go_wp2_with (go_at_call 19; refine (Hsg.out _).mono ?_)
  rintro x w2 ⟨rfl, hb2⟩
  obtain ⟨y0, y1, y2, y3, y4, y5, yl⟩ := Hx.out _ hb2
  have Hb2 := Lib.hid (Hb1.out.trans (hb2.mono Hb1.out.size))
  have Hb12 := Lib.hid hb2
  have HS := Lib.hid (fun W (hW : Below w2.heap.size w2 W) => (show W.cell? ⟨w.heap.size, 0, none⟩ = some (.int .i64 op) ∧ W.cell? ⟨w.heap.size, 1, none⟩ = some (.int .i64 n) ∧ W.cell? ⟨w.heap.size, 2, none⟩ = some (.string s) ∧ W.cell? ⟨w.heap.size, 3, none⟩ = some (.string name) ∧ W.cell? ⟨w.heap.size, 4, none⟩ = some (.string src) ∧ W.cell? ⟨w.heap.size, 5, none⟩ = some (.slice (some ⟨b, o, none⟩) 2 c) ∧ W.cell? ⟨b, o, none⟩ = some (.int .i64 a1.op) ∧ W.cell? ⟨b, o + 1, none⟩ = some (.int .i64 a1.n) ∧ W.cell? ⟨b, o + 2, none⟩ = some (.string a1.s) ∧ W.cell? ⟨b, o + 3, none⟩ = some (.string a1.name) ∧ W.cell? ⟨b, o + 4, none⟩ = some (.string a1.src) ∧ W.cell? ⟨b, o + 5, none⟩ = some (.slice A1 m1 c1) ∧ W.cell? ⟨b, o + 6, none⟩ = some (.int .i64 a2.op) ∧ W.cell? ⟨b, o + 6 + 1, none⟩ = some (.int .i64 a2.n) ∧ W.cell? ⟨b, o + 6 + 2, none⟩ = some (.string a2.s) ∧ W.cell? ⟨b, o + 6 + 3, none⟩ = some (.string a2.name) ∧ W.cell? ⟨b, o + 6 + 4, none⟩ = some (.string a2.src) ∧ W.cell? ⟨b, o + 6 + 5, none⟩ = some (.slice A2 m2 c2) ∧ w.heap.size < W.heap.size ∧ b < W.heap.size from by
    obtain ⟨p0, p1, p2, p3, p4, p5, p6⟩ := Hx.out W (Hb12.out.trans (hW.mono Hb12.out.size))
    obtain ⟨q0, q1, q2, q3, q4, q5, q6⟩ := HS1.out W (Hb2.out.trans (hW.mono Hb2.out.size))
    obtain ⟨r0, r1, r2, r3, r4, r5, r6⟩ := HS2.out W (Hb2.out.trans (hW.mono Hb2.out.size))
    exact ⟨p0, p1, p2, p3, p4, p5, q0, q1, q2, q3, q4, q5, r0, r1, r2, r3, r4, r5, p6, q6⟩))
  have HR1 := Lib.hid (show ∀ W, Below w2.heap.size w2 W → Calls Tryd.prog 23 #[.agg #[.int .i64 a1.op, .int .i64 a1.n, .string a1.s, .string a1.name, .string a1.src, .slice A1 m1 c1], .int .i64 5] W fun e w' => e = .returned (.string S1) ∧ Below w2.heap.size w2 w' from HD1.out.at_ Hb2.out)
  have HR2 := Lib.hid (show ∀ W, Below w2.heap.size w2 W → Calls Tryd.prog 23 #[.agg #[.int .i64 a2.op, .int .i64 a2.n, .string a2.s, .string a2.name, .string a2.src, .slice A2 m2 c2], .int .i64 5] W fun e w' => e = .returned (.string S2) ∧ Below w2.heap.size w2 w' from HD2.out.at_ Hb2.out)
  have hrf : Below w2.heap.size w2 w2 := Below.refl _ _
  clear x0 x1 x2 x3 x4 x5 xl hb2
  go_upto_region 21 with (fail)
  clear y0 y1 y2 y3 y4 y5 yl
  obtain ⟨x0, x1, x2, x3, x4, x5, z0, z1, z2, z3, z4, z5, v0, v1, v2, v3, v4, v5, xl, zl⟩ := HS.out w2 hrf
  go_region_held3 (fun W => W.cell? ⟨w.heap.size, 0, none⟩ = some (.int .i64 op) ∧ W.cell? ⟨w.heap.size, 1, none⟩ = some (.int .i64 n) ∧ W.cell? ⟨w.heap.size, 2, none⟩ = some (.string s) ∧ W.cell? ⟨w.heap.size, 3, none⟩ = some (.string name) ∧ W.cell? ⟨w.heap.size, 4, none⟩ = some (.string src) ∧ W.cell? ⟨w.heap.size, 5, none⟩ = some (.slice (some ⟨b, o, none⟩) 2 c) ∧ W.cell? ⟨b, o, none⟩ = some (.int .i64 a1.op) ∧ W.cell? ⟨b, o + 1, none⟩ = some (.int .i64 a1.n) ∧ W.cell? ⟨b, o + 2, none⟩ = some (.string a1.s) ∧ W.cell? ⟨b, o + 3, none⟩ = some (.string a1.name) ∧ W.cell? ⟨b, o + 4, none⟩ = some (.string a1.src) ∧ W.cell? ⟨b, o + 5, none⟩ = some (.slice A1 m1 c1) ∧ W.cell? ⟨b, o + 6, none⟩ = some (.int .i64 a2.op) ∧ W.cell? ⟨b, o + 6 + 1, none⟩ = some (.int .i64 a2.n) ∧ W.cell? ⟨b, o + 6 + 2, none⟩ = some (.string a2.s) ∧ W.cell? ⟨b, o + 6 + 3, none⟩ = some (.string a2.name) ∧ W.cell? ⟨b, o + 6 + 4, none⟩ = some (.string a2.src) ∧ W.cell? ⟨b, o + 6 + 5, none⟩ = some (.slice A2 m2 c2) ∧ w.heap.size < W.heap.size ∧ b < W.heap.size) (first | assumption | exact HS.out _ (by assumption) | exact HS.out _ (Below.drew (by assumption)) | ((repeat' apply And.intro) <;> first | assumption | (go_simp; done))) (first | (go_at_call 23; (with_reducible refine (HR1.out _ (by first | assumption | exact Below.drew (by assumption))).mono ?_; rintro x wa ⟨rfl, hba⟩)) | (go_at_call 23; (with_reducible refine (HR2.out _ (by first | assumption | exact Below.drew (by assumption))).mono ?_; rintro x wb ⟨rfl, hbb⟩)))
  clear x0 x1 x2 x3 x4 x5 z0 z1 z2 z3 z4 z5 v0 v1 v2 v3 v4 v5
  all_goals
    have HB := Lib.hid (And.intro hba hbb)
    clear hba hbb
    go_wp2
    go_ret
    exact ⟨ret_str (by simp [ByteArray.data_append]), by first | exact Hb2.out.trans (HB.out.1.mono Hb2.out.size) | exact Hb2.out.trans (HB.out.2.mono Hb2.out.size)⟩
set_option maxRecDepth 20000 in
set_option maxHeartbeats 4000000 in
theorem refx_two (op n : Int) (s name src : ByteArray) (b o c : Nat) (a1 a2 : Ex) (A1 A2 : Option Addr) (m1 c1 m2 c2 : Nat) (S1 S2 : ByteArray) (w : World) (h6 : 6 ≤ op) (h18 : op ≤ 18) (lv : Int) (hlv : lvlZ op = lv) (h4 : lv ≠ 4) (h3 : lv ≠ 3) (h7 : lv ≠ 7) (hl1 : 1 ≤ lv) (hl8 : lv ≤ 8) (hbl : b < w.heap.size)
    (hS1 : Six w b o a1 A1 m1 c1) (hD1 : RTx w 23 #[.agg (rowOf a1 A1 m1 c1).toArray, .int .i64 lv] S1) (hlen1 : S1.size ≤ 1000000000) (hS2 : Six w b (o + 6) a2 A2 m2 c2) (hD2 : RTx w 23 #[.agg (rowOf a2 A2 m2 c2).toArray, .int .i64 (lv + 1)] S2) (hlen2 : S2.size ≤ 1000000000) :
    Calls Tryd.prog 10 #[.agg #[.int .i64 op, .int .i64 n, .string s, .string name, .string src, .slice (some ⟨b, o, none⟩) 2 c]] w fun e' w' => e' = .returned (.string ⟨(S1.data.toList ++ ([32] ++ sgnL op ++ [32]) ++ S2.data.toList).toArray⟩) ∧ Below w.heap.size w w' := by
  obtain ⟨G, hG, hGs, hb0⟩ := bind_op op (by omega) (by omega)
  rw [← hG]
  rw [hlv] at hb0
  have Hsg := Lib.hid hb0
  have n1 : (op == 1) = false := by simp; omega
  have n2 : (op == 2) = false := by simp; omega
  have n3 : (op == 3) = false := by simp; omega
  have n4 : (op == 4) = false := by simp; omega
  have n5 : (op == 5) = false := by simp; omega
  have n21 : decide ((21 : Int) ≤ op) = false := by simp; omega
  have q3 : (lv == 3) = false := by simp; omega
  have q7 : (lv == 7) = false := by simp; omega
  have q4 : (lv == 4) = false := by simp; omega
  have i1 : IntKind.i64.wrap (lv + 1) = lv + 1 := by simp only [IntKind.wrap, IntKind.bits, IntKind.signed]; simp; omega
  have p1 : ¬ 9223372036854775807 < S1.size + 1 := by omega
  have p2 : ¬ 9223372036854775807 < S1.size + 1 + G.size := by omega
  have p3 : ¬ 9223372036854775807 < S1.size + 1 + G.size + 1 := by omega
  have p4 : ¬ 9223372036854775807 < S1.size + 1 + G.size + 1 + S2.size := by omega
  have HS1 := Lib.hid (fun W (hW : Below w.heap.size w W) => hS1.later hbl hW)
  have HD1 := Lib.hid hD1
  have HS2 := Lib.hid (fun W (hW : Below w.heap.size w W) => hS2.later hbl hW)
  have HD2 := Lib.hid hD2
  clear hb0 hlv hG hGs hlen1 hS1 hD1 hlen2 hS2 hD2 hbl h6 h18 h4 h3 h7 hl1 hl8
  obtain ⟨w1, Hw1⟩ : ∃ w1, Hid (w1 = w.alloc (.cells #[.int .i64 op, .int .i64 n, .string s, .string name, .string src, .slice (some ⟨b, o, none⟩) 2 c] 35)) := ⟨_, rfl⟩
  have hb1 : Below w.heap.size w w1 := by rw [Hw1.out]; exact (Below.refl _ _).alloc (Nat.le_refl _) _
  have hk1 : IsBlk w1 w.heap.size 35 #[.int .i64 op, .int .i64 n, .string s, .string name, .string src, .slice (some ⟨b, o, none⟩) 2 c] := by rw [Hw1.out]; exact IsBlk.laid _ _ _
  have Hx := Lib.hid (fun W (hW : Below w1.heap.size w1 W) => box6 (hk1.as_was (hW.block _ hk1.lt)))
  have Hb1 := Lib.hid hb1
  obtain ⟨x0, x1, x2, x3, x4, x5, xl⟩ := Hx.out _ (Below.refl _ _)
  clear hb1 hk1
  go_enter Tryd.func10, Tryd.ntmps10
  go_upto_region 1 with (fail)
  rw [← Hw1.out]
  go_wp2_with (go_at_call 19; refine (Hsg.out _).mono ?_)
  rintro x w2 ⟨rfl, hb2⟩
  obtain ⟨y0, y1, y2, y3, y4, y5, yl⟩ := Hx.out _ hb2
  have Hb2 := Lib.hid (Hb1.out.trans (hb2.mono Hb1.out.size))
  have Hb12 := Lib.hid hb2
  have HS := Lib.hid (fun W (hW : Below w2.heap.size w2 W) => (show W.cell? ⟨w.heap.size, 0, none⟩ = some (.int .i64 op) ∧ W.cell? ⟨w.heap.size, 1, none⟩ = some (.int .i64 n) ∧ W.cell? ⟨w.heap.size, 2, none⟩ = some (.string s) ∧ W.cell? ⟨w.heap.size, 3, none⟩ = some (.string name) ∧ W.cell? ⟨w.heap.size, 4, none⟩ = some (.string src) ∧ W.cell? ⟨w.heap.size, 5, none⟩ = some (.slice (some ⟨b, o, none⟩) 2 c) ∧ W.cell? ⟨b, o, none⟩ = some (.int .i64 a1.op) ∧ W.cell? ⟨b, o + 1, none⟩ = some (.int .i64 a1.n) ∧ W.cell? ⟨b, o + 2, none⟩ = some (.string a1.s) ∧ W.cell? ⟨b, o + 3, none⟩ = some (.string a1.name) ∧ W.cell? ⟨b, o + 4, none⟩ = some (.string a1.src) ∧ W.cell? ⟨b, o + 5, none⟩ = some (.slice A1 m1 c1) ∧ W.cell? ⟨b, o + 6, none⟩ = some (.int .i64 a2.op) ∧ W.cell? ⟨b, o + 6 + 1, none⟩ = some (.int .i64 a2.n) ∧ W.cell? ⟨b, o + 6 + 2, none⟩ = some (.string a2.s) ∧ W.cell? ⟨b, o + 6 + 3, none⟩ = some (.string a2.name) ∧ W.cell? ⟨b, o + 6 + 4, none⟩ = some (.string a2.src) ∧ W.cell? ⟨b, o + 6 + 5, none⟩ = some (.slice A2 m2 c2) ∧ w.heap.size < W.heap.size ∧ b < W.heap.size from by
    obtain ⟨p0, p1, p2, p3, p4, p5, p6⟩ := Hx.out W (Hb12.out.trans (hW.mono Hb12.out.size))
    obtain ⟨q0, q1, q2, q3, q4, q5, q6⟩ := HS1.out W (Hb2.out.trans (hW.mono Hb2.out.size))
    obtain ⟨r0, r1, r2, r3, r4, r5, r6⟩ := HS2.out W (Hb2.out.trans (hW.mono Hb2.out.size))
    exact ⟨p0, p1, p2, p3, p4, p5, q0, q1, q2, q3, q4, q5, r0, r1, r2, r3, r4, r5, p6, q6⟩))
  have HR1 := Lib.hid (show ∀ W, Below w2.heap.size w2 W → Calls Tryd.prog 23 #[.agg #[.int .i64 a1.op, .int .i64 a1.n, .string a1.s, .string a1.name, .string a1.src, .slice A1 m1 c1], .int .i64 lv] W fun e w' => e = .returned (.string S1) ∧ Below w2.heap.size w2 w' from HD1.out.at_ Hb2.out)
  have HR2 := Lib.hid (show ∀ W, Below w2.heap.size w2 W → Calls Tryd.prog 23 #[.agg #[.int .i64 a2.op, .int .i64 a2.n, .string a2.s, .string a2.name, .string a2.src, .slice A2 m2 c2], .int .i64 (lv + 1)] W fun e w' => e = .returned (.string S2) ∧ Below w2.heap.size w2 w' from HD2.out.at_ Hb2.out)
  have hrf : Below w2.heap.size w2 w2 := Below.refl _ _
  clear x0 x1 x2 x3 x4 x5 xl hb2
  go_upto_region 22 with (fail)
  clear y0 y1 y2 y3 y4 y5 yl
  obtain ⟨x0, x1, x2, x3, x4, x5, z0, z1, z2, z3, z4, z5, v0, v1, v2, v3, v4, v5, xl, zl⟩ := HS.out w2 hrf
  go_region_held3 (fun W => W.cell? ⟨w.heap.size, 0, none⟩ = some (.int .i64 op) ∧ W.cell? ⟨w.heap.size, 1, none⟩ = some (.int .i64 n) ∧ W.cell? ⟨w.heap.size, 2, none⟩ = some (.string s) ∧ W.cell? ⟨w.heap.size, 3, none⟩ = some (.string name) ∧ W.cell? ⟨w.heap.size, 4, none⟩ = some (.string src) ∧ W.cell? ⟨w.heap.size, 5, none⟩ = some (.slice (some ⟨b, o, none⟩) 2 c) ∧ W.cell? ⟨b, o, none⟩ = some (.int .i64 a1.op) ∧ W.cell? ⟨b, o + 1, none⟩ = some (.int .i64 a1.n) ∧ W.cell? ⟨b, o + 2, none⟩ = some (.string a1.s) ∧ W.cell? ⟨b, o + 3, none⟩ = some (.string a1.name) ∧ W.cell? ⟨b, o + 4, none⟩ = some (.string a1.src) ∧ W.cell? ⟨b, o + 5, none⟩ = some (.slice A1 m1 c1) ∧ W.cell? ⟨b, o + 6, none⟩ = some (.int .i64 a2.op) ∧ W.cell? ⟨b, o + 6 + 1, none⟩ = some (.int .i64 a2.n) ∧ W.cell? ⟨b, o + 6 + 2, none⟩ = some (.string a2.s) ∧ W.cell? ⟨b, o + 6 + 3, none⟩ = some (.string a2.name) ∧ W.cell? ⟨b, o + 6 + 4, none⟩ = some (.string a2.src) ∧ W.cell? ⟨b, o + 6 + 5, none⟩ = some (.slice A2 m2 c2) ∧ w.heap.size < W.heap.size ∧ b < W.heap.size) (first | assumption | exact HS.out _ (by assumption) | exact HS.out _ (Below.drew (by assumption)) | ((repeat' apply And.intro) <;> first | assumption | (go_simp; done))) (first | (go_at_call 23; (with_reducible refine (HR1.out _ (by first | assumption | exact Below.drew (by assumption))).mono ?_; rintro x wa ⟨rfl, hba⟩)) | (go_at_call 23; (with_reducible refine (HR2.out _ (by first | assumption | exact Below.drew (by assumption))).mono ?_; rintro x wb ⟨rfl, hbb⟩)))
  clear x0 x1 x2 x3 x4 x5 z0 z1 z2 z3 z4 z5 v0 v1 v2 v3 v4 v5
  all_goals
    have HB := Lib.hid (And.intro hba hbb)
    clear hba hbb
    go_wp2
    go_ret
    exact ⟨ret_str (by simp [ByteArray.data_append]), by first | exact Hb2.out.trans (HB.out.1.mono Hb2.out.size) | exact Hb2.out.trans (HB.out.2.mono Hb2.out.size)⟩
end Go.Proofs.YthiimingnmbgmaaDoor
