/- Parts of this proof, one behind the other: PrtK. -/
import Derived.Test.YthiimingnmbgmaaDoorPe33
import Derived.StillTailTactics
namespace Go.Proofs.YthiimingnmbgmaaDoor
open Go.RowKit Go.Afx

set_option maxRecDepth 100000 in
set_option maxHeartbeats 4000000 in
theorem expr_one (op n lv : Int) (sg : List UInt8) (s name src : ByteArray) (b o c : Nat) (a1 : Ex) (A1 : Option Addr) (m1 c1 : Nat) (T1 : List UInt8) (B1 : Bool) (g : Nat) (t : List UInt8) (br : Bool) (w : World) (hop : op = 19 ∨ op = 20) (hsg : sgnL op = sg) (hlv : lvlZ op = lv) (h : WtAt g t br w) (hbg : b < g)
    (hS1 : Six w b o a1 A1 m1 c1)
    (hD1 : Does g w 36 #[.pointer (some ⟨g, 0, none⟩), .agg (rowOf a1 A1 m1 c1).toArray, .int .i64 lv] T1 B1)
    (hlen : t.length + (sg ++ T1).length ≤ 1000000000) :
    Calls Tryd.prog 17 #[.pointer (some ⟨g, 0, none⟩), .agg #[.int .i64 op, .int .i64 n, .string s, .string name, .string src, .slice (some ⟨b, o, none⟩) 1 c]] w fun e' w' => e' = .returned (.tuple #[]) ∧ WtAt g (t ++ (sg ++ T1)) (br || B1) w' ∧ Wrote g w w' := by
  have Hsg := Lib.hid (fun W => (show Calls Tryd.prog 29 #[.int .i64 op] W fun e w' => e = .returned (.tuple #[.string ⟨sg.toArray⟩, .int .i64 lv]) ∧ Below W.heap.size W w' from by
    have h := sign_any op W (by omega) (by omega)
    unfold SignQ at h
    rw [hsg, hlv] at h
    exact h))
  clear hsg hlv
  obtain ⟨w1, Hw1⟩ : ∃ w1, Hid (w1 = w.alloc (.cells #[.int .i64 op, .int .i64 n, .string s, .string name, .string src, .slice (some ⟨b, o, none⟩) 1 c] 35)) := ⟨_, rfl⟩
  have hb1 : Below w.heap.size w w1 := by rw [Hw1.out]; exact (Below.refl _ _).alloc (Nat.le_refl _) _
  have hk1 : IsBlk w1 w.heap.size 35 #[.int .i64 op, .int .i64 n, .string s, .string name, .string src, .slice (some ⟨b, o, none⟩) 1 c] := by rw [Hw1.out]; exact IsBlk.laid _ _ _
  have hr1 : Wrote g w w1 := Wrote.of_below (Nat.le_of_lt h.lt) hb1
  have Hx := Lib.hid (fun W (hW : Wrote g w1 W) => box6 (hW.2.2 _ _ _ (by decide) (by decide) hk1))
  have hwt1 := h.below hb1
  have Hr1 := Lib.hid hr1
  have HS1 := Lib.hid (fun W (hW : Wrote g w W) => hS1.wrote hbg hW)
  have HD1 := Lib.hid hD1
  have Hbg := Lib.hid hbg
  have Hlow := Lib.hid hwt1.lt
  obtain ⟨x0, x1, x2, x3, x4, x5, xl⟩ := Hx.out _ (Wrote.refl _ _)
  have Hlen := Lib.hid hlen
  clear hk1 h hlen hb1 hr1 hS1 hD1 hbg
  rcases hop with rfl | rfl
  all_goals
    go_enter Tryd.func17, Tryd.ntmps17
    go_upto_region 1 with (fail)
    rw [← Hw1.out]
    go_wp2_with (go_at_call 29; refine (Hsg.out _).mono ?_)
    rintro e' w2 ⟨rfl, hb2⟩
    have hr2 : Wrote g w1 w2 := Wrote.of_below (Nat.le_of_lt hwt1.lt) hb2
    have hwt2 := hwt1.below hb2
    obtain ⟨y0, y1, y2, y3, y4, y5, yl⟩ := Hx.out _ hr2
    clear x0 x1 x2 x3 x4 x5 xl hwt1 hb2
    go_wp2_with (fail)
    refine (put_new g 1 _ _ [⟨sg.toArray⟩] _ hwt2 rfl (by decide) (by have h9 := Hlen.out; simp [catL] at h9 ⊢; omega)).mono ?_
    rintro e' w4 ⟨rfl, hwt4, hr4⟩
    have e4 : t ++ catL [⟨sg.toArray⟩] = t ++ sg := by simp [catL]
    rw [e4] at hwt4
    have hr4' := hr2.trans hr4
    have Hr4 := Lib.hid hr4'
    obtain ⟨x0, x1, x2, x3, x4, x5, xl⟩ := Hx.out _ hr4'
    obtain ⟨z0, z1, z2, z3, z4, z5⟩ := HS1.out _ (Hr1.out.trans hr4')
    have hbl : b < w4.heap.size := by have := Hbg.out; have := hwt4.lt; omega
    clear y0 y1 y2 y3 y4 y5 yl hwt2 hr2 hr4 hr4' e4
    go_wp2_with (fail)
    refine (HD1.out _ _ _ (Hr1.out.trans Hr4.out) hwt4 (by have h9 := Hlen.out; simp at h9 ⊢; omega)).mono ?_
    rintro e' w5 ⟨rfl, hwt5, hr5⟩
    rw [List.append_assoc] at hwt5
    have H5 := Lib.hid (And.intro hwt5 (Hr1.out.trans (Hr4.out.trans hr5)))
    clear hwt5 hr5 x0 x1 x2 x3 x4 x5 xl z0 z1 z2 z3 z4 z5 hbl hwt4
    go_wp2
    go_end0
    exact ⟨rfl, H5.out.1, H5.out.2⟩
set_option maxRecDepth 100000 in
set_option maxHeartbeats 4000000 in
theorem expr_count (op n lv : Int) (sg : List UInt8) (s name src : ByteArray) (b o c : Nat) (a1 : Ex) (A1 : Option Addr) (m1 c1 : Nat) (T1 : List UInt8) (B1 : Bool) (g : Nat) (t : List UInt8) (br : Bool) (w : World) (hop : op = 21) (hsg : sgnL op = sg) (hlv : lvlZ op = lv) (h : WtAt g t br w) (hbg : b < g)
    (hS1 : Six w b o a1 A1 m1 c1)
    (hD1 : Does g w 37 #[.pointer (some ⟨g, 0, none⟩), .string name, .string src, .agg (rowOf a1 A1 m1 c1).toArray] T1 B1)
    (hlen : t.length + (sg ++ [40] ++ T1 ++ [41]).length ≤ 1000000000) :
    Calls Tryd.prog 17 #[.pointer (some ⟨g, 0, none⟩), .agg #[.int .i64 op, .int .i64 n, .string s, .string name, .string src, .slice (some ⟨b, o, none⟩) 1 c]] w fun e' w' => e' = .returned (.tuple #[]) ∧ WtAt g (t ++ (sg ++ [40] ++ T1 ++ [41])) (br || B1) w' ∧ Wrote g w w' := by
  have Hsg := Lib.hid (fun W => (show Calls Tryd.prog 29 #[.int .i64 op] W fun e w' => e = .returned (.tuple #[.string ⟨sg.toArray⟩, .int .i64 lv]) ∧ Below W.heap.size W w' from by
    have h := sign_any op W (by omega) (by omega)
    unfold SignQ at h
    rw [hsg, hlv] at h
    exact h))
  clear hsg hlv
  obtain ⟨w1, Hw1⟩ : ∃ w1, Hid (w1 = w.alloc (.cells #[.int .i64 op, .int .i64 n, .string s, .string name, .string src, .slice (some ⟨b, o, none⟩) 1 c] 35)) := ⟨_, rfl⟩
  have hb1 : Below w.heap.size w w1 := by rw [Hw1.out]; exact (Below.refl _ _).alloc (Nat.le_refl _) _
  have hk1 : IsBlk w1 w.heap.size 35 #[.int .i64 op, .int .i64 n, .string s, .string name, .string src, .slice (some ⟨b, o, none⟩) 1 c] := by rw [Hw1.out]; exact IsBlk.laid _ _ _
  have hr1 : Wrote g w w1 := Wrote.of_below (Nat.le_of_lt h.lt) hb1
  have Hx := Lib.hid (fun W (hW : Wrote g w1 W) => box6 (hW.2.2 _ _ _ (by decide) (by decide) hk1))
  have hwt1 := h.below hb1
  have Hr1 := Lib.hid hr1
  have HS1 := Lib.hid (fun W (hW : Wrote g w W) => hS1.wrote hbg hW)
  have HD1 := Lib.hid hD1
  have Hbg := Lib.hid hbg
  have Hlow := Lib.hid hwt1.lt
  obtain ⟨x0, x1, x2, x3, x4, x5, xl⟩ := Hx.out _ (Wrote.refl _ _)
  have Hlen := Lib.hid hlen
  clear hk1 h hlen hb1 hr1 hS1 hD1 hbg
  subst hop
  all_goals
    go_enter Tryd.func17, Tryd.ntmps17
    go_upto_region 1 with (fail)
    rw [← Hw1.out]
    go_wp2_with (go_at_call 29; refine (Hsg.out _).mono ?_)
    rintro e' w2 ⟨rfl, hb2⟩
    have hr2 : Wrote g w1 w2 := Wrote.of_below (Nat.le_of_lt hwt1.lt) hb2
    have hwt2 := hwt1.below hb2
    obtain ⟨y0, y1, y2, y3, y4, y5, yl⟩ := Hx.out _ hr2
    clear x0 x1 x2 x3 x4 x5 xl hwt1 hb2
    go_wp2_with (fail)
    refine (put_new g 2 _ _ [⟨sg.toArray⟩, ⟨#[40]⟩] _ hwt2 rfl (by decide) (by have h9 := Hlen.out; simp [catL] at h9 ⊢; omega)).mono ?_
    rintro e' w4 ⟨rfl, hwt4, hr4⟩
    have e4 : t ++ catL [⟨sg.toArray⟩, ⟨#[40]⟩] = t ++ (sg ++ [40]) := by simp [catL]
    rw [e4] at hwt4
    have hr4' := hr2.trans hr4
    have hbd := (Below.refl w4.heap.size w4).drew
    have hr5 := hr4'.trans (Wrote.of_below (Nat.le_of_lt hwt4.lt) hbd)
    have hwt5 := hwt4.below hbd
    obtain ⟨x0, x1, x2, x3, x4, x5, xl⟩ := Hx.out _ hr4'
    obtain ⟨z0, z1, z2, z3, z4, z5⟩ := HS1.out _ (Hr1.out.trans hr4')
    have hbl : b < w4.heap.size := by have := Hbg.out; have := hwt4.lt; omega
    have Hc5 := Lib.hid (HD1.out _ _ _ (Hr1.out.trans hr5) hwt5 (by have h9 := Hlen.out; simp at h9 ⊢; omega))
    have Hr5 := Lib.hid hr5
    clear y0 y1 y2 y3 y4 y5 yl hwt2 hr2 hr4 hr4' e4 hwt4 hbd hr5 hwt5
    go_upto_region 29 with (fail)
    go_still_tail 9, (by kernel_rfl)
    change wpList _ _ _ _ _ w4.drew
    generalize w4.drew = w5 at *
    clear x0 x1 x2 x3 x4 x5 xl z0 z1 z2 z3 z4 z5 hbl
    obtain ⟨x0, x1, x2, x3, x4, x5, xl⟩ := Hx.out _ Hr5.out
    obtain ⟨z0, z1, z2, z3, z4, z5⟩ := HS1.out _ (Hr1.out.trans Hr5.out)
    have hbl : b < w5.heap.size := by have := Hbg.out; have := Hr5.out.1.size; have := Hlow.out; omega
    go_wp2_with (fail)
    refine Hc5.out.mono ?_
    rintro e' w6 ⟨rfl, hwt6, hr6⟩
    have hr6' := Hr5.out.trans hr6
    have Hr6 := Lib.hid hr6'
    have Hwt6 := Lib.hid hwt6
    clear x0 x1 x2 x3 x4 x5 xl z0 z1 z2 z3 z4 z5 hbl
    obtain ⟨x0, x1, x2, x3, x4, x5, xl⟩ := Hx.out _ hr6'
    clear hr6 hr6' hwt6
    go_wp2_with (fail)
    refine (put_new g 1 _ _ [⟨#[41]⟩] _ Hwt6.out rfl (by decide) (by have h9 := Hlen.out; simp [catL] at h9 ⊢; omega)).mono ?_
    rintro e' w9 ⟨rfl, hwt9, hr9⟩
    have H9 := Lib.hid (And.intro hwt9 (Hr1.out.trans (Hr6.out.trans hr9)))
    clear hwt9 hr9 x0 x1 x2 x3 x4 x5 xl
    go_wp2
    go_end0
    refine ⟨rfl, ?_, H9.out.2⟩
    have h9 := H9.out.1
    simpa [catL, Bool.or_assoc] using h9
set_option maxRecDepth 100000 in
set_option maxHeartbeats 4000000 in
theorem expr_over (op n lv : Int) (sg : List UInt8) (s name src : ByteArray) (b o c : Nat) (a1 a2 : Ex) (A1 A2 : Option Addr) (m1 c1 m2 c2 : Nat) (T1 T2 : List UInt8) (B1 B2 : Bool) (g : Nat) (t : List UInt8) (br : Bool) (w : World) (hop : op = 22 ∨ op = 23 ∨ op = 24) (hsg : sgnL op = sg) (hlv : lvlZ op = lv) (h : WtAt g t br w) (hbg : b < g)
    (hS1 : Six w b o a1 A1 m1 c1)
    (hD1 : Does g w 37 #[.pointer (some ⟨g, 0, none⟩), .string name, .string src, .agg (rowOf a1 A1 m1 c1).toArray] T1 B1)
    (hS2 : Six w b (o + 6) a2 A2 m2 c2)
    (hD2 : Does g w 17 #[.pointer (some ⟨g, 0, none⟩), .agg (rowOf a2 A2 m2 c2).toArray] T2 B2)
    (hlen : t.length + (sg ++ [40] ++ T1 ++ ([58, 32] ++ T2) ++ [41]).length ≤ 1000000000) :
    Calls Tryd.prog 17 #[.pointer (some ⟨g, 0, none⟩), .agg #[.int .i64 op, .int .i64 n, .string s, .string name, .string src, .slice (some ⟨b, o, none⟩) 2 c]] w fun e' w' => e' = .returned (.tuple #[]) ∧ WtAt g (t ++ (sg ++ [40] ++ T1 ++ ([58, 32] ++ T2) ++ [41])) (br || (B1 || B2)) w' ∧ Wrote g w w' := by
  have Hsg := Lib.hid (fun W => (show Calls Tryd.prog 29 #[.int .i64 op] W fun e w' => e = .returned (.tuple #[.string ⟨sg.toArray⟩, .int .i64 lv]) ∧ Below W.heap.size W w' from by
    have h := sign_any op W (by omega) (by omega)
    unfold SignQ at h
    rw [hsg, hlv] at h
    exact h))
  clear hsg hlv
  obtain ⟨w1, Hw1⟩ : ∃ w1, Hid (w1 = w.alloc (.cells #[.int .i64 op, .int .i64 n, .string s, .string name, .string src, .slice (some ⟨b, o, none⟩) 2 c] 35)) := ⟨_, rfl⟩
  have hb1 : Below w.heap.size w w1 := by rw [Hw1.out]; exact (Below.refl _ _).alloc (Nat.le_refl _) _
  have hk1 : IsBlk w1 w.heap.size 35 #[.int .i64 op, .int .i64 n, .string s, .string name, .string src, .slice (some ⟨b, o, none⟩) 2 c] := by rw [Hw1.out]; exact IsBlk.laid _ _ _
  have hr1 : Wrote g w w1 := Wrote.of_below (Nat.le_of_lt h.lt) hb1
  have Hx := Lib.hid (fun W (hW : Wrote g w1 W) => box6 (hW.2.2 _ _ _ (by decide) (by decide) hk1))
  have hwt1 := h.below hb1
  have Hr1 := Lib.hid hr1
  have HS1 := Lib.hid (fun W (hW : Wrote g w W) => hS1.wrote hbg hW)
  have HD1 := Lib.hid hD1
  have HS2 := Lib.hid (fun W (hW : Wrote g w W) => hS2.wrote hbg hW)
  have HD2 := Lib.hid hD2
  have Hbg := Lib.hid hbg
  have Hlow := Lib.hid hwt1.lt
  obtain ⟨x0, x1, x2, x3, x4, x5, xl⟩ := Hx.out _ (Wrote.refl _ _)
  have Hlen := Lib.hid hlen
  clear hk1 h hlen hb1 hr1 hS1 hD1 hbg hS2 hD2
  rcases hop with rfl | rfl | rfl
  all_goals
    go_enter Tryd.func17, Tryd.ntmps17
    go_upto_region 1 with (fail)
    rw [← Hw1.out]
    go_wp2_with (go_at_call 29; refine (Hsg.out _).mono ?_)
    rintro e' w2 ⟨rfl, hb2⟩
    have hr2 : Wrote g w1 w2 := Wrote.of_below (Nat.le_of_lt hwt1.lt) hb2
    have hwt2 := hwt1.below hb2
    obtain ⟨y0, y1, y2, y3, y4, y5, yl⟩ := Hx.out _ hr2
    clear x0 x1 x2 x3 x4 x5 xl hwt1 hb2
    go_wp2_with (fail)
    refine (put_new g 2 _ _ [⟨sg.toArray⟩, ⟨#[40]⟩] _ hwt2 rfl (by decide) (by have h9 := Hlen.out; simp [catL] at h9 ⊢; omega)).mono ?_
    rintro e' w4 ⟨rfl, hwt4, hr4⟩
    have e4 : t ++ catL [⟨sg.toArray⟩, ⟨#[40]⟩] = t ++ (sg ++ [40]) := by simp [catL]
    rw [e4] at hwt4
    have hr4' := hr2.trans hr4
    have hbd := (Below.refl w4.heap.size w4).drew
    have hr5 := hr4'.trans (Wrote.of_below (Nat.le_of_lt hwt4.lt) hbd)
    have hwt5 := hwt4.below hbd
    obtain ⟨x0, x1, x2, x3, x4, x5, xl⟩ := Hx.out _ hr4'
    obtain ⟨z0, z1, z2, z3, z4, z5⟩ := HS1.out _ (Hr1.out.trans hr4')
    have hbl : b < w4.heap.size := by have := Hbg.out; have := hwt4.lt; omega
    have Hc5 := Lib.hid (HD1.out _ _ _ (Hr1.out.trans hr5) hwt5 (by have h9 := Hlen.out; simp at h9 ⊢; omega))
    have Hr5 := Lib.hid hr5
    clear y0 y1 y2 y3 y4 y5 yl hwt2 hr2 hr4 hr4' e4 hwt4 hbd hr5 hwt5
    go_upto_region 29 with (fail)
    go_still_tail 9, (by kernel_rfl)
    change wpList _ _ _ _ _ w4.drew
    generalize w4.drew = w5 at *
    clear x0 x1 x2 x3 x4 x5 xl z0 z1 z2 z3 z4 z5 hbl
    obtain ⟨x0, x1, x2, x3, x4, x5, xl⟩ := Hx.out _ Hr5.out
    obtain ⟨z0, z1, z2, z3, z4, z5⟩ := HS1.out _ (Hr1.out.trans Hr5.out)
    have hbl : b < w5.heap.size := by have := Hbg.out; have := Hr5.out.1.size; have := Hlow.out; omega
    go_wp2_with (fail)
    refine Hc5.out.mono ?_
    rintro e' w6 ⟨rfl, hwt6, hr6⟩
    have hr6' := Hr5.out.trans hr6
    have Hr6 := Lib.hid hr6'
    have Hwt6 := Lib.hid hwt6
    clear x0 x1 x2 x3 x4 x5 xl z0 z1 z2 z3 z4 z5 hbl
    obtain ⟨x0, x1, x2, x3, x4, x5, xl⟩ := Hx.out _ hr6'
    clear hr6 hr6' hwt6
    go_wp2_with (fail)
    refine (put_new g 1 _ _ [⟨#[58, 32]⟩] _ Hwt6.out rfl (by decide) (by have h9 := Hlen.out; simp [catL] at h9 ⊢; omega)).mono ?_
    rintro e' w7 ⟨rfl, hwt7, hr7⟩
    have hr7' := Hr6.out.trans hr7
    have Hr7 := Lib.hid hr7'
    clear x0 x1 x2 x3 x4 x5 xl
    obtain ⟨x0, x1, x2, x3, x4, x5, xl⟩ := Hx.out _ hr7'
    obtain ⟨z0, z1, z2, z3, z4, z5⟩ := HS2.out _ (Hr1.out.trans hr7')
    have hbl : b < w7.heap.size := by have := Hbg.out; have := hwt7.lt; omega
    have Hc8 := Lib.hid (HD2.out _ _ _ (Hr1.out.trans hr7') hwt7 (by have h9 := Hlen.out; simp [catL] at h9 ⊢; omega))
    clear hr7 hr7' hwt7
    go_wp2_with (fail)
    refine Hc8.out.mono ?_
    rintro e' w8 ⟨rfl, hwt8, hr8⟩
    have Hr8 := Lib.hid (Hr7.out.trans hr8)
    have Hwt8 := Lib.hid hwt8
    clear x0 x1 x2 x3 x4 x5 xl z0 z1 z2 z3 z4 z5 hbl hwt8 hr8
    go_wp2_with (fail)
    refine (put_new g 1 _ _ [⟨#[41]⟩] _ Hwt8.out rfl (by decide) (by have h9 := Hlen.out; simp [catL] at h9 ⊢; omega)).mono ?_
    rintro e' w9 ⟨rfl, hwt9, hr9⟩
    have H9 := Lib.hid (And.intro hwt9 (Hr1.out.trans (Hr8.out.trans hr9)))
    clear hwt9 hr9
    go_wp2
    go_end0
    refine ⟨rfl, ?_, H9.out.2⟩
    have h9 := H9.out.1
    simpa [catL, Bool.or_assoc] using h9
end Go.Proofs.YthiimingnmbgmaaDoor
