/- Parts of this proof, one behind the other: PrsD, PrsE. -/
import Derived.Test.YtjpiedpmnnepgaaGreatDoorPz13
import Derived.Lib.Repeat
set_option maxRecDepth 1000000
set_option maxHeartbeats 40000000
namespace Go.Proofs.YtjpiedpmnnepgaaGreatDoor
open Go.RowKit Go.Afx
theorem stmt_plain (name src : ByteArray) (n : Int) (Ac Ab Al : Option Addr) (nc cc nb cb nl cl : Nat) (op k : Int) (Ae : Option Addr) (ne ce : Nat) (T : List UInt8) (B : Bool) (g : Nat) (t : List UInt8) (br : Bool) (w : World) (h : WtAt g t br w) (h6 : op ≠ 6) (h7 : op ≠ 7) (hD : Does g w 162 #[.pointer (some ⟨g, 0, none⟩), .agg #[.int .i64 op, .string name, .string src, .int .i64 n, .slice Ac nc cc, .slice Ae ne ce, .slice Ab nb cb, .slice Al nl cl]] T B)
  (hlen : t.length + (T ++ [59]).length ≤ 1000000000) :
  Calls Tryz.prog 127 #[.pointer (some ⟨g, 0, none⟩), .agg #[.int .i64 op, .string name, .string src, .int .i64 n, .slice Ac nc cc, .slice Ae ne ce, .slice Ab nb cb, .slice Al nl cl], .int .i64 k] w fun e' w' => e' = .returned (.tuple #[]) ∧ WtAt g (t ++ (T ++ [59])) (br || B) w' ∧ Wrote g w w' := by
 have n6 : (op == 6) = false := by simpa using h6
 have n7 : (op == 7) = false := by simpa using h7
 obtain ⟨w1, Hw1⟩ : ∃ w1, Hid (w1 = w.alloc (.cells #[.int .i64 op, .string name, .string src, .int .i64 n, .slice Ac nc cc, .slice Ae ne ce, .slice Ab nb cb, .slice Al nl cl] 68)) := ⟨_, rfl⟩
 have hb1 : Below w.heap.size w w1 := by rw [Hw1.out]; exact (Below.refl _ _).alloc (Nat.le_refl _) _
 have hk1 : IsBlk w1 w.heap.size 68 #[.int .i64 op, .string name, .string src, .int .i64 n, .slice Ac nc cc, .slice Ae ne ce, .slice Ab nb cb, .slice Al nl cl] := by rw [Hw1.out]; exact IsBlk.laid _ _ _
 have Hr0 := Lhd (Wrote.of_below (Nat.le_of_lt h.lt) hb1 : Wrote g w w1)
 have Hx := Lhd (fun W (hW : Wrote g w1 W) => box8 (hW.2.2 _ _ _ (by decide) (by decide) hk1))
 have hwt1 := h.below hb1
 have Hr1 := Lhd (Wrote.refl g w1)
 have Hlen := Lhd hlen
 have HD := Lhd hD
 obtain ⟨x0, x1, x2, x3, x4, x5, x6, x7, xl⟩ := Hx.out _ (Wrote.refl _ _)
 clear hk1 h hlen hb1 hD h6 h7
 go_enter Tryz.func127, Tryz.ntmps127
 go_upto_region 1 with (fail)
 rw [← Hw1.out]
 go_wp2_with (fail)
 refine (HD.out _ _ _ (Hr0.out.trans Hr1.out) hwt1 (by have h9 := Hlen.out; simp at h9 ⊢; omega)).mono ?_
 rintro e' w2 ⟨rfl, hwt2, hr2⟩
 have Hr2 := Lhd (Hr1.out.trans hr2)
 clear x0 x1 x2 x3 x4 x5 x6 x7 xl hwt1 hr2
 obtain ⟨x0, x1, x2, x3, x4, x5, x6, x7, xl⟩ := Hx.out _ Hr2.out
 go_wp2_with (fail)
 refine (put_new g 1 _ _ [⟨#[59]⟩] _ hwt2 rfl (by decide) (by have h9 := Hlen.out; simp [catL] at h9 ⊢; omega)).mono ?_
 rintro e' w3 ⟨rfl, hwt3, hr3⟩
 have Hr3 := Lhd (Hr2.out.trans hr3)
 clear x0 x1 x2 x3 x4 x5 x6 x7 xl hwt2 hr3
 obtain ⟨x0, x1, x2, x3, x4, x5, x6, x7, xl⟩ := Hx.out _ Hr3.out
 have H := Lhd (And.intro hwt3 (Hr0.out.trans Hr3.out))
 clear hwt3 x0 x1 x2 x3 x4 x5 x6 x7 xl
 go_wp2
 go_end0
 exact ⟨rfl, by simpa [catL] using H.out.1, H.out.2⟩
theorem stmt_6 (name src : ByteArray) (n : Int) (Ac Ab Al : Option Addr) (nc cc nb cb nl cl : Nat) (k : Int) (TB : List UInt8) (BB : Bool) (b o ne ce : Nat) (a1 : Ex) (A1 : Option Addr) (m1 c1 : Nat) (T : List UInt8) (B : Bool) (g : Nat) (t : List UInt8) (br : Bool) (w : World) (h : WtAt g t br w) (hbg : b < g) (hne : 1 ≤ ne) (hS : Six w b o a1 A1 m1 c1) (hD : Does g w 54 #[.pointer (some ⟨g, 0, none⟩), .string name, .string src, .agg (rowOf a1 A1 m1 c1).toArray] T B) (hB : Does g w 76 #[.pointer (some ⟨g, 0, none⟩), .slice Ab nb cb, .int .i64 k] TB BB) (hn : n = 0)
  (hlen : t.length + ([102, 111, 114, 32] ++ T ++ [32] ++ TB).length ≤ 1000000000) :
  Calls Tryz.prog 127 #[.pointer (some ⟨g, 0, none⟩), .agg #[.int .i64 6, .string name, .string src, .int .i64 n, .slice Ac nc cc, .slice (some ⟨b, o, none⟩) ne ce, .slice Ab nb cb, .slice Al nl cl], .int .i64 k] w fun e' w' => e' = .returned (.tuple #[]) ∧ WtAt g (t ++ ([102, 111, 114, 32] ++ T ++ [32] ++ TB)) (br || (B || BB)) w' ∧ Wrote g w w' := by
 subst hn
 obtain ⟨w1, Hw1⟩ : ∃ w1, Hid (w1 = w.alloc (.cells #[.int .i64 6, .string name, .string src, .int .i64 0, .slice Ac nc cc, .slice (some ⟨b, o, none⟩) ne ce, .slice Ab nb cb, .slice Al nl cl] 68)) := ⟨_, rfl⟩
 have hb1 : Below w.heap.size w w1 := by rw [Hw1.out]; exact (Below.refl _ _).alloc (Nat.le_refl _) _
 have hk1 : IsBlk w1 w.heap.size 68 #[.int .i64 6, .string name, .string src, .int .i64 0, .slice Ac nc cc, .slice (some ⟨b, o, none⟩) ne ce, .slice Ab nb cb, .slice Al nl cl] := by rw [Hw1.out]; exact IsBlk.laid _ _ _
 have Hr0 := Lhd (Wrote.of_below (Nat.le_of_lt h.lt) hb1 : Wrote g w w1)
 have Hx := Lhd (fun W (hW : Wrote g w1 W) => box8 (hW.2.2 _ _ _ (by decide) (by decide) hk1))
 have hwt1 := h.below hb1
 have Hr1 := Lhd (Wrote.refl g w1)
 have Hlen := Lhd hlen
 have HD := Lhd hD
 have HS := Lhd (fun W (hW : Wrote g w W) => hS.wrote hbg hW)
 have Hbg := Lhd hbg
 have i1 : 0 < ne := by omega
 have HB := Lhd hB
 obtain ⟨x0, x1, x2, x3, x4, x5, x6, x7, xl⟩ := Hx.out _ (Wrote.refl _ _)
 clear hk1 h hlen hb1 hS hD hbg hne hB
 go_enter Tryz.func127, Tryz.ntmps127
 go_upto_region 1 with (fail)
 rw [← Hw1.out]
 go_wp2_with (fail)
 refine (put_new g 1 _ _ [⟨#[102, 111, 114, 32]⟩] _ hwt1 rfl (by decide) (by have h9 := Hlen.out; simp [catL] at h9 ⊢; omega)).mono ?_
 rintro e' w2 ⟨rfl, hwt2, hr2⟩
 have Hr2 := Lhd (Hr1.out.trans hr2)
 clear x0 x1 x2 x3 x4 x5 x6 x7 xl hwt1 hr2
 obtain ⟨x0, x1, x2, x3, x4, x5, x6, x7, xl⟩ := Hx.out _ Hr2.out
 have hbd := (Below.refl w2.heap.size w2).drew
 have hr3 := Hr2.out.trans (Wrote.of_below (Nat.le_of_lt hwt2.lt) hbd)
 have hwt3 := hwt2.below hbd
 have Hc3 := Lhd (HD.out _ _ _ (Hr0.out.trans hr3) hwt3 (by have h9 := Hlen.out; simp [catL] at h9 ⊢; omega))
 have Hr3 := Lhd hr3
 have Hlo3 := Lhd hwt3.lt
 obtain ⟨z0, z1, z2, z3, z4, z5⟩ := HS.out _ (Hr0.out.trans Hr2.out)
 have hbl : b < w2.heap.size := by have := Hbg.out; have := hwt2.lt; omega
 clear hwt2 hbd hr3 hwt3
 go_upto_region 6 with (fail)
 go_still_tail 9, (by kernel_rfl)
 change wpList _ _ _ _ _ w2.drew
 generalize w2.drew = w3 at *
 clear x0 x1 x2 x3 x4 x5 x6 x7 xl z0 z1 z2 z3 z4 z5 hbl
 obtain ⟨x0, x1, x2, x3, x4, x5, x6, x7, xl⟩ := Hx.out _ Hr3.out
 obtain ⟨z0, z1, z2, z3, z4, z5⟩ := HS.out _ (Hr0.out.trans Hr3.out)
 have hbl : b < w3.heap.size := by have := Hbg.out; have := Hlo3.out; omega
 go_wp2_with (fail)
 refine Hc3.out.mono ?_
 rintro e' w4 ⟨rfl, hwt4, hr4⟩
 have Hr4 := Lhd (Hr3.out.trans hr4)
 clear x0 x1 x2 x3 x4 x5 x6 x7 xl z0 z1 z2 z3 z4 z5 hbl hr4
 obtain ⟨x0, x1, x2, x3, x4, x5, x6, x7, xl⟩ := Hx.out _ Hr4.out
 go_wp2_with (fail)
 refine (put_new g 1 _ _ [⟨#[32]⟩] _ hwt4 rfl (by decide) (by have h9 := Hlen.out; simp [catL] at h9 ⊢; omega)).mono ?_
 rintro e' w5 ⟨rfl, hwt5, hr5⟩
 have Hr5 := Lhd (Hr4.out.trans hr5)
 clear x0 x1 x2 x3 x4 x5 x6 x7 xl hwt4 hr5
 obtain ⟨x0, x1, x2, x3, x4, x5, x6, x7, xl⟩ := Hx.out _ Hr5.out
 go_wp2_with (fail)
 refine (HB.out _ _ _ (Hr0.out.trans Hr5.out) hwt5 (by have h9 := Hlen.out; simp [catL] at h9 ⊢; omega)).mono ?_
 rintro e' w6 ⟨rfl, hwt6, hr6⟩
 have Hr6 := Lhd (Hr5.out.trans hr6)
 clear x0 x1 x2 x3 x4 x5 x6 x7 xl hwt5 hr6
 obtain ⟨x0, x1, x2, x3, x4, x5, x6, x7, xl⟩ := Hx.out _ Hr6.out
 have H := Lhd (And.intro hwt6 (Hr0.out.trans Hr6.out))
 clear hwt6 x0 x1 x2 x3 x4 x5 x6 x7 xl
 go_wp2
 go_end0
 exact ⟨rfl, by simpa [catL, Bool.or_assoc] using H.out.1, H.out.2⟩
theorem stmt_6l (name src : ByteArray) (n : Int) (Ac Ab Al : Option Addr) (nc cc nb cb nl cl : Nat) (k : Int) (TB : List UInt8) (BB : Bool) (b o ne ce : Nat) (a1 : Ex) (A1 : Option Addr) (m1 c1 : Nat) (T : List UInt8) (B : Bool) (g : Nat) (t : List UInt8) (br : Bool) (w : World) (h : WtAt g t br w) (hbg : b < g) (hne : 1 ≤ ne) (hS : Six w b o a1 A1 m1 c1) (hD : Does g w 54 #[.pointer (some ⟨g, 0, none⟩), .string name, .string src, .agg (rowOf a1 A1 m1 c1).toArray] T B) (hB : Does g w 76 #[.pointer (some ⟨g, 0, none⟩), .slice Ab nb cb, .int .i64 k] TB BB) (hn : 0 < n) (hn2 : n ≤ 1000)
  (hlen : t.length + ([102, 111, 114, 32] ++ T ++ ([32, 108, 105, 109, 105, 116, 32] ++ decS n) ++ [32] ++ TB).length ≤ 1000000000) :
  Calls Tryz.prog 127 #[.pointer (some ⟨g, 0, none⟩), .agg #[.int .i64 6, .string name, .string src, .int .i64 n, .slice Ac nc cc, .slice (some ⟨b, o, none⟩) ne ce, .slice Ab nb cb, .slice Al nl cl], .int .i64 k] w fun e' w' => e' = .returned (.tuple #[]) ∧ WtAt g (t ++ ([102, 111, 114, 32] ++ T ++ ([32, 108, 105, 109, 105, 116, 32] ++ decS n) ++ [32] ++ TB)) (br || (B || BB)) w' ∧ Wrote g w w' := by
 have Hcp := Lhd (fun W => calcPrint_any n W (by omega) (by omega))
 obtain ⟨w1, Hw1⟩ : ∃ w1, Hid (w1 = w.alloc (.cells #[.int .i64 6, .string name, .string src, .int .i64 n, .slice Ac nc cc, .slice (some ⟨b, o, none⟩) ne ce, .slice Ab nb cb, .slice Al nl cl] 68)) := ⟨_, rfl⟩
 have hb1 : Below w.heap.size w w1 := by rw [Hw1.out]; exact (Below.refl _ _).alloc (Nat.le_refl _) _
 have hk1 : IsBlk w1 w.heap.size 68 #[.int .i64 6, .string name, .string src, .int .i64 n, .slice Ac nc cc, .slice (some ⟨b, o, none⟩) ne ce, .slice Ab nb cb, .slice Al nl cl] := by rw [Hw1.out]; exact IsBlk.laid _ _ _
 have Hr0 := Lhd (Wrote.of_below (Nat.le_of_lt h.lt) hb1 : Wrote g w w1)
 have Hx := Lhd (fun W (hW : Wrote g w1 W) => box8 (hW.2.2 _ _ _ (by decide) (by decide) hk1))
 have hwt1 := h.below hb1
 have Hr1 := Lhd (Wrote.refl g w1)
 have Hlen := Lhd hlen
 have HD := Lhd hD
 have HS := Lhd (fun W (hW : Wrote g w W) => hS.wrote hbg hW)
 have Hbg := Lhd hbg
 have i1 : 0 < ne := by omega
 have HB := Lhd hB
 obtain ⟨x0, x1, x2, x3, x4, x5, x6, x7, xl⟩ := Hx.out _ (Wrote.refl _ _)
 clear hk1 h hlen hb1 hS hD hbg hne hB
 go_enter Tryz.func127, Tryz.ntmps127
 go_upto_region 1 with (fail)
 rw [← Hw1.out]
 go_wp2_with (fail)
 refine (put_new g 1 _ _ [⟨#[102, 111, 114, 32]⟩] _ hwt1 rfl (by decide) (by have h9 := Hlen.out; simp [catL] at h9 ⊢; omega)).mono ?_
 rintro e' w2 ⟨rfl, hwt2, hr2⟩
 have Hr2 := Lhd (Hr1.out.trans hr2)
 clear x0 x1 x2 x3 x4 x5 x6 x7 xl hwt1 hr2
 obtain ⟨x0, x1, x2, x3, x4, x5, x6, x7, xl⟩ := Hx.out _ Hr2.out
 have hbd := (Below.refl w2.heap.size w2).drew
 have hr3 := Hr2.out.trans (Wrote.of_below (Nat.le_of_lt hwt2.lt) hbd)
 have hwt3 := hwt2.below hbd
 have Hc3 := Lhd (HD.out _ _ _ (Hr0.out.trans hr3) hwt3 (by have h9 := Hlen.out; simp [catL] at h9 ⊢; omega))
 have Hr3 := Lhd hr3
 have Hlo3 := Lhd hwt3.lt
 obtain ⟨z0, z1, z2, z3, z4, z5⟩ := HS.out _ (Hr0.out.trans Hr2.out)
 have hbl : b < w2.heap.size := by have := Hbg.out; have := hwt2.lt; omega
 clear hwt2 hbd hr3 hwt3
 go_upto_region 6 with (fail)
 go_still_tail 9, (by kernel_rfl)
 change wpList _ _ _ _ _ w2.drew
 generalize w2.drew = w3 at *
 clear x0 x1 x2 x3 x4 x5 x6 x7 xl z0 z1 z2 z3 z4 z5 hbl
 obtain ⟨x0, x1, x2, x3, x4, x5, x6, x7, xl⟩ := Hx.out _ Hr3.out
 obtain ⟨z0, z1, z2, z3, z4, z5⟩ := HS.out _ (Hr0.out.trans Hr3.out)
 have hbl : b < w3.heap.size := by have := Hbg.out; have := Hlo3.out; omega
 go_wp2_with (fail)
 refine Hc3.out.mono ?_
 rintro e' w4 ⟨rfl, hwt4, hr4⟩
 have Hr4 := Lhd (Hr3.out.trans hr4)
 clear x0 x1 x2 x3 x4 x5 x6 x7 xl z0 z1 z2 z3 z4 z5 hbl hr4
 obtain ⟨x0, x1, x2, x3, x4, x5, x6, x7, xl⟩ := Hx.out _ Hr4.out
 go_wp2_with (go_at_call 48; refine (Hcp.out _).mono ?_)
 rintro x w5 ⟨rfl, hb5⟩
 have hr5 : Wrote g w4 w5 := Wrote.of_below (Nat.le_of_lt hwt4.lt) hb5
 have hwt5 := hwt4.below hb5
 clear hb5
 have Hr5 := Lhd (Hr4.out.trans hr5)
 clear x0 x1 x2 x3 x4 x5 x6 x7 xl hwt4 hr5
 obtain ⟨x0, x1, x2, x3, x4, x5, x6, x7, xl⟩ := Hx.out _ Hr5.out
 go_wp2_with (fail)
 refine (put_new g 2 _ _ [⟨#[32, 108, 105, 109, 105, 116, 32]⟩, ⟨(decS n).toArray⟩] _ hwt5 rfl (by decide) (by have h9 := Hlen.out; simp [catL] at h9 ⊢; omega)).mono ?_
 rintro e' w6 ⟨rfl, hwt6, hr6⟩
 have Hr6 := Lhd (Hr5.out.trans hr6)
 clear x0 x1 x2 x3 x4 x5 x6 x7 xl hwt5 hr6
 obtain ⟨x0, x1, x2, x3, x4, x5, x6, x7, xl⟩ := Hx.out _ Hr6.out
 go_wp2_with (fail)
 refine (put_new g 1 _ _ [⟨#[32]⟩] _ hwt6 rfl (by decide) (by have h9 := Hlen.out; simp [catL] at h9 ⊢; omega)).mono ?_
 rintro e' w7 ⟨rfl, hwt7, hr7⟩
 have Hr7 := Lhd (Hr6.out.trans hr7)
 clear x0 x1 x2 x3 x4 x5 x6 x7 xl hwt6 hr7
 obtain ⟨x0, x1, x2, x3, x4, x5, x6, x7, xl⟩ := Hx.out _ Hr7.out
 go_wp2_with (fail)
 refine (HB.out _ _ _ (Hr0.out.trans Hr7.out) hwt7 (by have h9 := Hlen.out; simp [catL] at h9 ⊢; omega)).mono ?_
 rintro e' w8 ⟨rfl, hwt8, hr8⟩
 have Hr8 := Lhd (Hr7.out.trans hr8)
 clear x0 x1 x2 x3 x4 x5 x6 x7 xl hwt7 hr8
 obtain ⟨x0, x1, x2, x3, x4, x5, x6, x7, xl⟩ := Hx.out _ Hr8.out
 have H := Lhd (And.intro hwt8 (Hr0.out.trans Hr8.out))
 clear hwt8 x0 x1 x2 x3 x4 x5 x6 x7 xl
 go_wp2
 go_end0
 exact ⟨rfl, by simpa [catL, Bool.or_assoc] using H.out.1, H.out.2⟩
theorem stmt_7 (name src : ByteArray) (n : Int) (Ac Ab Al : Option Addr) (nc cc nb cb nl cl : Nat) (k : Int) (TB : List UInt8) (BB : Bool) (b o ne ce : Nat) (a1 : Ex) (A1 : Option Addr) (m1 c1 : Nat) (T : List UInt8) (B : Bool) (g : Nat) (t : List UInt8) (br : Bool) (w : World) (h : WtAt g t br w) (hbg : b < g) (hne : 1 ≤ ne) (hS : Six w b o a1 A1 m1 c1) (hD : Does g w 22 #[.pointer (some ⟨g, 0, none⟩), .agg (rowOf a1 A1 m1 c1).toArray] T B) (hB : Does g w 76 #[.pointer (some ⟨g, 0, none⟩), .slice Ab nb cb, .int .i64 k] TB BB) (hl : nl = 0)
  (hlen : t.length + ([105, 102, 32] ++ T ++ [32] ++ TB).length ≤ 1000000000) :
  Calls Tryz.prog 127 #[.pointer (some ⟨g, 0, none⟩), .agg #[.int .i64 7, .string name, .string src, .int .i64 n, .slice Ac nc cc, .slice (some ⟨b, o, none⟩) ne ce, .slice Ab nb cb, .slice Al nl cl], .int .i64 k] w fun e' w' => e' = .returned (.tuple #[]) ∧ WtAt g (t ++ ([105, 102, 32] ++ T ++ [32] ++ TB)) (br || (B || BB)) w' ∧ Wrote g w w' := by
 subst hl
 obtain ⟨w1, Hw1⟩ : ∃ w1, Hid (w1 = w.alloc (.cells #[.int .i64 7, .string name, .string src, .int .i64 n, .slice Ac nc cc, .slice (some ⟨b, o, none⟩) ne ce, .slice Ab nb cb, .slice Al 0 cl] 68)) := ⟨_, rfl⟩
 have hb1 : Below w.heap.size w w1 := by rw [Hw1.out]; exact (Below.refl _ _).alloc (Nat.le_refl _) _
 have hk1 : IsBlk w1 w.heap.size 68 #[.int .i64 7, .string name, .string src, .int .i64 n, .slice Ac nc cc, .slice (some ⟨b, o, none⟩) ne ce, .slice Ab nb cb, .slice Al 0 cl] := by rw [Hw1.out]; exact IsBlk.laid _ _ _
 have Hr0 := Lhd (Wrote.of_below (Nat.le_of_lt h.lt) hb1 : Wrote g w w1)
 have Hx := Lhd (fun W (hW : Wrote g w1 W) => box8 (hW.2.2 _ _ _ (by decide) (by decide) hk1))
 have hwt1 := h.below hb1
 have Hr1 := Lhd (Wrote.refl g w1)
 have Hlen := Lhd hlen
 have HD := Lhd hD
 have HS := Lhd (fun W (hW : Wrote g w W) => hS.wrote hbg hW)
 have Hbg := Lhd hbg
 have i1 : 0 < ne := by omega
 have HB := Lhd hB
 obtain ⟨x0, x1, x2, x3, x4, x5, x6, x7, xl⟩ := Hx.out _ (Wrote.refl _ _)
 clear hk1 h hlen hb1 hS hD hbg hne hB
 go_enter Tryz.func127, Tryz.ntmps127
 go_upto_region 1 with (fail)
 rw [← Hw1.out]
 go_wp2_with (fail)
 refine (put_new g 1 _ _ [⟨#[105, 102, 32]⟩] _ hwt1 rfl (by decide) (by have h9 := Hlen.out; simp [catL] at h9 ⊢; omega)).mono ?_
 rintro e' w2 ⟨rfl, hwt2, hr2⟩
 have Hr2 := Lhd (Hr1.out.trans hr2)
 clear x0 x1 x2 x3 x4 x5 x6 x7 xl hwt1 hr2
 obtain ⟨x0, x1, x2, x3, x4, x5, x6, x7, xl⟩ := Hx.out _ Hr2.out
 obtain ⟨z0, z1, z2, z3, z4, z5⟩ := HS.out _ (Hr0.out.trans Hr2.out)
 have hbl : b < w2.heap.size := by have := Hbg.out; have := hwt2.lt; omega
 go_wp2_with (fail)
 refine (HD.out _ _ _ (Hr0.out.trans Hr2.out) hwt2 (by have h9 := Hlen.out; simp [catL] at h9 ⊢; omega)).mono ?_
 rintro e' w3 ⟨rfl, hwt3, hr3⟩
 have Hr3 := Lhd (Hr2.out.trans hr3)
 clear x0 x1 x2 x3 x4 x5 x6 x7 xl hwt2 hr3
 obtain ⟨x0, x1, x2, x3, x4, x5, x6, x7, xl⟩ := Hx.out _ Hr3.out
 clear z0 z1 z2 z3 z4 z5 hbl
 go_wp2_with (fail)
 refine (put_new g 1 _ _ [⟨#[32]⟩] _ hwt3 rfl (by decide) (by have h9 := Hlen.out; simp [catL] at h9 ⊢; omega)).mono ?_
 rintro e' w4 ⟨rfl, hwt4, hr4⟩
 have Hr4 := Lhd (Hr3.out.trans hr4)
 clear x0 x1 x2 x3 x4 x5 x6 x7 xl hwt3 hr4
 obtain ⟨x0, x1, x2, x3, x4, x5, x6, x7, xl⟩ := Hx.out _ Hr4.out
 go_wp2_with (fail)
 refine (HB.out _ _ _ (Hr0.out.trans Hr4.out) hwt4 (by have h9 := Hlen.out; simp [catL] at h9 ⊢; omega)).mono ?_
 rintro e' w5 ⟨rfl, hwt5, hr5⟩
 have Hr5 := Lhd (Hr4.out.trans hr5)
 clear x0 x1 x2 x3 x4 x5 x6 x7 xl hwt4 hr5
 obtain ⟨x0, x1, x2, x3, x4, x5, x6, x7, xl⟩ := Hx.out _ Hr5.out
 have H := Lhd (And.intro hwt5 (Hr0.out.trans Hr5.out))
 clear hwt5
 go_wp2
 go_end0
 exact ⟨rfl, by simpa [catL, Bool.or_assoc] using H.out.1, H.out.2⟩
theorem stmt_7e (name src : ByteArray) (n : Int) (Ac Ab Al : Option Addr) (nc cc nb cb nl cl : Nat) (k : Int) (TB : List UInt8) (BB : Bool) (TE : List UInt8) (BE : Bool) (b o ne ce : Nat) (a1 : Ex) (A1 : Option Addr) (m1 c1 : Nat) (T : List UInt8) (B : Bool) (g : Nat) (t : List UInt8) (br : Bool) (w : World) (h : WtAt g t br w) (hbg : b < g) (hne : 1 ≤ ne) (hS : Six w b o a1 A1 m1 c1) (hD : Does g w 22 #[.pointer (some ⟨g, 0, none⟩), .agg (rowOf a1 A1 m1 c1).toArray] T B) (hB : Does g w 76 #[.pointer (some ⟨g, 0, none⟩), .slice Ab nb cb, .int .i64 k] TB BB) (hB2 : Does g w 76 #[.pointer (some ⟨g, 0, none⟩), .slice Al nl cl, .int .i64 k] TE BE) (hl : 0 < nl)
  (hlen : t.length + ([105, 102, 32] ++ T ++ [32] ++ TB ++ ([32, 101, 108, 115, 101, 32] ++ TE)).length ≤ 1000000000) :
  Calls Tryz.prog 127 #[.pointer (some ⟨g, 0, none⟩), .agg #[.int .i64 7, .string name, .string src, .int .i64 n, .slice Ac nc cc, .slice (some ⟨b, o, none⟩) ne ce, .slice Ab nb cb, .slice Al nl cl], .int .i64 k] w fun e' w' => e' = .returned (.tuple #[]) ∧ WtAt g (t ++ ([105, 102, 32] ++ T ++ [32] ++ TB ++ ([32, 101, 108, 115, 101, 32] ++ TE))) (br || (B || BB || BE)) w' ∧ Wrote g w w' := by
 have HB2 := Lhd hB2
 obtain ⟨w1, Hw1⟩ : ∃ w1, Hid (w1 = w.alloc (.cells #[.int .i64 7, .string name, .string src, .int .i64 n, .slice Ac nc cc, .slice (some ⟨b, o, none⟩) ne ce, .slice Ab nb cb, .slice Al nl cl] 68)) := ⟨_, rfl⟩
 have hb1 : Below w.heap.size w w1 := by rw [Hw1.out]; exact (Below.refl _ _).alloc (Nat.le_refl _) _
 have hk1 : IsBlk w1 w.heap.size 68 #[.int .i64 7, .string name, .string src, .int .i64 n, .slice Ac nc cc, .slice (some ⟨b, o, none⟩) ne ce, .slice Ab nb cb, .slice Al nl cl] := by rw [Hw1.out]; exact IsBlk.laid _ _ _
 have Hr0 := Lhd (Wrote.of_below (Nat.le_of_lt h.lt) hb1 : Wrote g w w1)
 have Hx := Lhd (fun W (hW : Wrote g w1 W) => box8 (hW.2.2 _ _ _ (by decide) (by decide) hk1))
 have hwt1 := h.below hb1
 have Hr1 := Lhd (Wrote.refl g w1)
 have Hlen := Lhd hlen
 have HD := Lhd hD
 have HS := Lhd (fun W (hW : Wrote g w W) => hS.wrote hbg hW)
 have Hbg := Lhd hbg
 have i1 : 0 < ne := by omega
 have HB := Lhd hB
 obtain ⟨x0, x1, x2, x3, x4, x5, x6, x7, xl⟩ := Hx.out _ (Wrote.refl _ _)
 clear hk1 h hlen hb1 hS hD hbg hne hB hB2
 go_enter Tryz.func127, Tryz.ntmps127
 go_upto_region 1 with (fail)
 rw [← Hw1.out]
 go_wp2_with (fail)
 refine (put_new g 1 _ _ [⟨#[105, 102, 32]⟩] _ hwt1 rfl (by decide) (by have h9 := Hlen.out; simp [catL] at h9 ⊢; omega)).mono ?_
 rintro e' w2 ⟨rfl, hwt2, hr2⟩
 have Hr2 := Lhd (Hr1.out.trans hr2)
 clear x0 x1 x2 x3 x4 x5 x6 x7 xl hwt1 hr2
 obtain ⟨x0, x1, x2, x3, x4, x5, x6, x7, xl⟩ := Hx.out _ Hr2.out
 obtain ⟨z0, z1, z2, z3, z4, z5⟩ := HS.out _ (Hr0.out.trans Hr2.out)
 have hbl : b < w2.heap.size := by have := Hbg.out; have := hwt2.lt; omega
 go_wp2_with (fail)
 refine (HD.out _ _ _ (Hr0.out.trans Hr2.out) hwt2 (by have h9 := Hlen.out; simp [catL] at h9 ⊢; omega)).mono ?_
 rintro e' w3 ⟨rfl, hwt3, hr3⟩
 have Hr3 := Lhd (Hr2.out.trans hr3)
 clear x0 x1 x2 x3 x4 x5 x6 x7 xl hwt2 hr3
 obtain ⟨x0, x1, x2, x3, x4, x5, x6, x7, xl⟩ := Hx.out _ Hr3.out
 clear z0 z1 z2 z3 z4 z5 hbl
 go_wp2_with (fail)
 refine (put_new g 1 _ _ [⟨#[32]⟩] _ hwt3 rfl (by decide) (by have h9 := Hlen.out; simp [catL] at h9 ⊢; omega)).mono ?_
 rintro e' w4 ⟨rfl, hwt4, hr4⟩
 have Hr4 := Lhd (Hr3.out.trans hr4)
 clear x0 x1 x2 x3 x4 x5 x6 x7 xl hwt3 hr4
 obtain ⟨x0, x1, x2, x3, x4, x5, x6, x7, xl⟩ := Hx.out _ Hr4.out
 go_wp2_with (fail)
 refine (HB.out _ _ _ (Hr0.out.trans Hr4.out) hwt4 (by have h9 := Hlen.out; simp [catL] at h9 ⊢; omega)).mono ?_
 rintro e' w5 ⟨rfl, hwt5, hr5⟩
 have Hr5 := Lhd (Hr4.out.trans hr5)
 clear x0 x1 x2 x3 x4 x5 x6 x7 xl hwt4 hr5
 obtain ⟨x0, x1, x2, x3, x4, x5, x6, x7, xl⟩ := Hx.out _ Hr5.out
 go_wp2_with (fail)
 refine (put_new g 1 _ _ [⟨#[32, 101, 108, 115, 101, 32]⟩] _ hwt5 rfl (by decide) (by have h9 := Hlen.out; simp [catL] at h9 ⊢; omega)).mono ?_
 rintro e' w6 ⟨rfl, hwt6, hr6⟩
 have Hr6 := Lhd (Hr5.out.trans hr6)
 clear x0 x1 x2 x3 x4 x5 x6 x7 xl hwt5 hr6
 obtain ⟨x0, x1, x2, x3, x4, x5, x6, x7, xl⟩ := Hx.out _ Hr6.out
 go_wp2_with (fail)
 refine (HB2.out _ _ _ (Hr0.out.trans Hr6.out) hwt6 (by have h9 := Hlen.out; simp [catL] at h9 ⊢; omega)).mono ?_
 rintro e' w7 ⟨rfl, hwt7, hr7⟩
 have Hr7 := Lhd (Hr6.out.trans hr7)
 clear x0 x1 x2 x3 x4 x5 x6 x7 xl hwt6 hr7
 obtain ⟨x0, x1, x2, x3, x4, x5, x6, x7, xl⟩ := Hx.out _ Hr7.out
 have H := Lhd (And.intro hwt7 (Hr0.out.trans Hr7.out))
 clear hwt7 x0 x1 x2 x3 x4 x5 x6 x7 xl
 go_wp2
 go_end0
 exact ⟨rfl, by simpa [catL, Bool.or_assoc] using H.out.1, H.out.2⟩
theorem repeat_ind (k : Nat) : Lib.repeatL [32, 32] k = indT k := by
 induction k with
 | zero => rfl
 | succ k ih =>
  have e : Lib.repeatL [32, 32] (k + 1) = [32, 32] ++ Lib.repeatL [32, 32] k := rfl
  rw [e, ih]
  unfold indT
  rw [show 2 * (k + 1) = 2 * k + 1 + 1 from by omega, List.replicate_succ, List.replicate_succ]
  rfl
theorem repeat_any (k : Nat) (hk : k ≤ 1001) (w : World) : Calls Tryz.prog 126 #[.string ⟨#[32, 32]⟩, .int .i64 k] w fun e w' => e = .returned (.string ⟨(indT k).toArray⟩) ∧ Below w.heap.size w w' := by
 have e0 : (⟨#[32, 32]⟩ : ByteArray).size = 2 := rfl
 have h := Tryz.strings_Repeat ⟨#[32, 32]⟩ k w (by omega) (by rw [e0]; omega)
 have e : (⟨#[32, 32]⟩ : ByteArray).data.toList = [32, 32] := rfl
 rw [e, repeat_ind] at h
 exact h
def StmtC (F : Nat → Prop) (d : Nat) : Prop := ∀ (x : St) (row : List Value) (g : Nat) (t : List UInt8) (br : Bool) (w : World) (k : Nat), StAt F d w row x → builtS d x = true → (∀ j, F j → j < g) → WtAt g t br w → HasMax w → 0 < g → k + d ≤ 1000 → t.length + (txtS d k x).length ≤ 1000000000 →
 Calls Tryz.prog 127 #[.pointer (some ⟨g, 0, none⟩), .agg row.toArray, .int .i64 k] w fun e' w' => e' = .returned (.tuple #[]) ∧ WtAt g (t ++ txtS d k x) (br || nlS d x) w' ∧ Wrote g w w'
theorem st_row {F : Nat → Prop} {d : Nat} {w : World} {row : List Value} {x : St} (h : StAt F d w row x) : ∃ Ac nc cc Ae ne ce Ab nb cb Al nl cl, row = [.int .i64 x.op, .string x.name, .string x.src, .int .i64 x.n, .slice Ac nc cc, .slice Ae ne ce, .slice Ab nb cb, .slice Al nl cl] := by
 cases d with
 | zero => exact h.elim
 | succ d => obtain ⟨_, _, _, _, Ac, nc, cc, Ae, ne, ce, Ab, nb, cb, Al, nl, cl, hr, _⟩ := h.open_; exact ⟨Ac, nc, cc, Ae, ne, ce, Ab, nb, cb, Al, nl, cl, hr⟩
theorem StAt.wrote {F : Nat → Prop} {d g : Nat} {w w' : World} {row : List Value} {x : St} (h : StAt F d w row x) (hF : ∀ k, F k → k < g) (hw : Wrote g w w') : StAt F d w' row x :=
 h.kept ⟨hw.1.size, fun k _ hf => hw.1.block k (hF k hf)⟩
theorem sts_wrote {F : Nat → Prop} {d n c g : Nat} {w : World} {A : Option Addr} {xs : List St} (h : StsAt F d w A n c xs) (hF : ∀ k, F k → k < g) {k : Nat} (hk : k < n) :
  ∃ b o x Ac nc cc Ae ne ce Ab nb cb Al nl cl, A = some ⟨b, o, none⟩ ∧ xs[k]? = some x ∧ ∀ W, Wrote g w W → (b < W.heap.size ∧ W.cell? ⟨b, o + k * 8, none⟩ = some (.int .i64 x.op) ∧ W.cell? ⟨b, o + k * 8 + 1, none⟩ = some (.string x.name) ∧ W.cell? ⟨b, o + k * 8 + 2, none⟩ = some (.string x.src) ∧ W.cell? ⟨b, o + k * 8 + 3, none⟩ = some (.int .i64 x.n) ∧ W.cell? ⟨b, o + k * 8 + 4, none⟩ = some (.slice Ac nc cc) ∧ W.cell? ⟨b, o + k * 8 + 5, none⟩ = some (.slice Ae ne ce) ∧ W.cell? ⟨b, o + k * 8 + 6, none⟩ = some (.slice Ab nb cb) ∧ W.cell? ⟨b, o + k * 8 + 7, none⟩ = some (.slice Al nl cl)) ∧
   StAt F d W [.int .i64 x.op, .string x.name, .string x.src, .int .i64 x.n, .slice Ac nc cc, .slice Ae ne ce, .slice Ab nb cb, .slice Al nl cl] x := by
 obtain ⟨b, o, r, x, hA, hb, hFb, hx, hl, hp, hc⟩ := LsAt.get h hk
 obtain ⟨Ac, nc, cc, Ae, ne, ce, Ab, nb, cb, Al, nl, cl, rfl⟩ := st_row hp
 have g2 : ∀ (W : World), Wrote g w W → ∀ j u, ([.int .i64 x.op, .string x.name, .string x.src, .int .i64 x.n, .slice Ac nc cc, .slice Ae ne ce, .slice Ab nb cb, .slice Al nl cl] : List Value)[j]? = some u → W.cell? ⟨b, o + k * 8 + j, none⟩ = some u := fun W hW j u hj => (hW.1.cell (p := ⟨b, o + k * 8 + j, none⟩) (hF b hFb)).trans (hc j u hj)
 exact ⟨b, o, x, Ac, nc, cc, Ae, ne, ce, Ab, nb, cb, Al, nl, cl, hA, hx, fun W hW => ⟨⟨Nat.lt_of_lt_of_le hb hW.1.size, by simpa using g2 W hW 0 _ rfl, g2 W hW 1 _ rfl, g2 W hW 2 _ rfl, g2 W hW 3 _ rfl, g2 W hW 4 _ rfl, g2 W hW 5 _ rfl, g2 W hW 6 _ rfl, g2 W hW 7 _ rfl⟩, StAt.wrote hp hF hW⟩⟩
def linesT (f : Nat → St → List UInt8) (k : Nat) (l : List St) : List UInt8 := l.flatMap fun x => indT (k + 1) ++ f (k + 1) x ++ [10]
theorem linesT_take {f : Nat → St → List UInt8} {k i : Nat} {l : List St} {x : St} (h : l[i]? = some x) : linesT f k (l.take (i + 1)) = linesT f k (l.take i) ++ indT (k + 1) ++ f (k + 1) x ++ [10] := by
 obtain ⟨h1, h2⟩ := List.getElem?_eq_some_iff.1 h
 unfold linesT
 rw [List.take_succ_eq_append_getElem h1, List.flatMap_append, h2, List.flatMap_cons, List.flatMap_nil]
 simp
theorem linesT_le {f : Nat → St → List UInt8} {k i : Nat} {l : List St} : (linesT f k (l.take i)).length ≤ (linesT f k l).length := by
 unfold linesT
 conv => rhs; rw [← List.take_append_drop i l]
 rw [List.flatMap_append, List.length_append]
 omega
theorem indT_len (k : Nat) : (indT k).length = 2 * k := by simp [indT]
theorem block_any (F : Nat → Prop) (d : Nat) (hS : StmtC F d) (xs : List St) (A : Option Addr) (n c k g : Nat) (t : List UInt8) (br : Bool) (w : World) (hx : StsAt F d w A n c xs) (hb : ∀ x ∈ xs, builtS d x = true) (hF : ∀ j, F j → j < g) (h : WtAt g t br w) (hm : HasMax w) (hg : 0 < g) (hk : k + d ≤ 999) (hlen : t.length + (blockT (txtS d) k xs).length ≤ 1000000000) :
  Calls Tryz.prog 76 #[.pointer (some ⟨g, 0, none⟩), .slice A n c, .int .i64 k] w fun e' w' => e' = .returned (.tuple #[]) ∧ WtAt g (t ++ blockT (txtS d) k xs) (br || xs.any (nlS d)) w' ∧ Wrote g w w' := by
 have hn := LsAt.n_le hx
 have hne := LsAt.len hx
 rcases Nat.eq_zero_or_pos n with rfl | hp
 ·obtain rfl : xs = [] := List.eq_nil_of_length_eq_zero hne
  have H := Lhd h
  have Hlen := Lhd hlen
  clear hx hb hF h hm hg hS hlen
  go_enter Tryz.func76, Tryz.ntmps76
  go_wp2_with (fail)
  refine (put_new g 1 _ _ [⟨#[123, 125]⟩] _ H.out rfl (by decide) (by have h9 := Hlen.out; have e : (blockT (txtS d) k []).length = 2 := rfl; have e2 : (catL [⟨#[123, 125]⟩]).length = 2 := rfl; omega)).mono ?_
  rintro e' w2 ⟨rfl, hwt2, hr2⟩
  have H2 := Lhd (And.intro hwt2 hr2)
  clear hwt2 hr2
  go_wp2
  refine bodyPost_ret (results_none rfl _ _ _) rfl ?_
  exact ⟨rfl, by simpa [catL, blockT] using H2.out.1, H2.out.2⟩
 ·have hz : ((n : Int) == 0) = false := by simp; omega
  have hnil : xs ≠ [] := by intro e; rw [e] at hne; simp at hne; omega
  have hbT : blockT (txtS d) k xs = [123, 10] ++ linesT (txtS d) k xs ++ indT k ++ [125] := by unfold blockT linesT; rw [if_neg hnil]
  rw [hbT] at hlen ⊢
  have Hget := Lhd (fun i (hi : i < n) => sts_wrote hx hF hi)
  have Hb := Lhd hb
  have HS := Lhd hS
  have HF := Lhd hF
  have Hm := Lhd hm
  have Hg := Lhd hg
  have H := Lhd h
  have Hl := Lhd (show t.length + 2 + (linesT (txtS d) k xs).length + 2 * k + 1 ≤ 1000000000 from by
   have := indT_len k
   simp only [List.length_append, List.length_cons, List.length_nil] at hlen
   omega)
  have Hk := Lhd hk
  have Hr1 := Lhd (fun W => (show Calls Tryz.prog 126 #[.string ⟨#[32, 32]⟩, .int .i64 ((k : Int) + 1)] W fun e w' => e = .returned (.string ⟨(indT (k + 1)).toArray⟩) ∧ Below W.heap.size W w' from repeat_any (k + 1) (by omega) W))
  have Hr0 := Lhd (repeat_any k (by omega))
  have i3 : IntKind.i64.wrap ((k : Int) + 1) = (k : Int) + 1 := by simp only [IntKind.wrap, IntKind.bits, IntKind.signed]; simp; omega
  clear hx hb hF h hm hg hS hlen hnil hbT hk
  go_enter Tryz.func76, Tryz.ntmps76
  go_wp2_with (fail)
  refine (put_new g 1 _ _ [⟨#[123, 10]⟩] _ H.out rfl (by decide) (by have h9 := Hl.out; have e2 : (catL [⟨#[123, 10]⟩]).length = 2 := rfl; omega)).mono ?_
  rintro e' w2 ⟨rfl, hwt2, hr2⟩
  have HRb := Lhd hr2
  have e2 : t ++ catL [⟨#[123, 10]⟩] = t ++ [123, 10] := rfl
  rw [e2] at hwt2
  have Hw := Lhd hwt2
  clear hwt2 hr2 e2
  go_wp2
  go_loopw [19] (fun i wr => ∃ j : Nat, j ≤ n ∧ i = .int .i64 j ∧ Hid (WtAt g (t ++ [123, 10] ++ linesT (txtS d) k (xs.take j)) (br || (xs.take j).any (nlS d)) wr) ∧ Hid (Wrote g w2 wr)) (fun i _ => n - (intOf i).toNat)
  case atStart => exact ⟨0, Nat.zero_le _, rfl, Lhd (by simpa [linesT] using Hw.out), Lhd (Wrote.refl _ _)⟩
  case round =>
   obtain ⟨j, hj, rfl, HW, HR⟩ := hrel
   rcases Nat.lt_or_ge j n with hlt | hge
   ·obtain ⟨b, o, x, Ac, nc, cc, Ae, ne, ce, Ab, nb, cb, Al, nl, cl, rfl, he, hat⟩ := Hget.out j hlt
    have hRw := HRb.out.trans HR.out
    obtain ⟨⟨hbl, z0, z1, z2, z3, z4, z5, z6, z7⟩, _⟩ := hat _ hRw
    have hbe := Hb.out x (List.mem_of_getElem? he)
    have Hat := Lhd (any_take (p := nlS d) he)
    have Hlt := Lhd (linesT_take (f := txtS d) (k := k) he)
    have hle := linesT_le (f := txtS d) (k := k) (i := j + 1) (l := xs)
    rw [Hlt.out] at hle
    have Hl4 := Lhd (show (t ++ [123, 10] ++ linesT (txtS d) k (xs.take j)).length + (2 * (k + 1) + (txtS d (k + 1) x).length + 1) ≤ 1000000000 from by
     have := Hl.out
     have := indT_len (k + 1)
     simp only [List.length_append, List.length_cons, List.length_nil] at hle ⊢
     omega)
    obtain ⟨w4, Hw4⟩ : ∃ w4, Hid (w4 = wr.alloc (.cells #[.int .i64 x.op, .string x.name, .string x.src, .int .i64 x.n, .slice Ac nc cc, .slice Ae ne ce, .slice Ab nb cb, .slice Al nl cl] 68)) := ⟨_, rfl⟩
    have hb4 : Below wr.heap.size wr w4 := by rw [Hw4.out]; exact (Below.refl _ _).alloc (Nat.le_refl _) _
    have hk4 : IsBlk w4 wr.heap.size 68 #[.int .i64 x.op, .string x.name, .string x.src, .int .i64 x.n, .slice Ac nc cc, .slice Ae ne ce, .slice Ab nb cb, .slice Al nl cl] := by rw [Hw4.out]; exact IsBlk.laid _ _ _
    have hwt4 := HW.out.below hb4
    have hr4 : Wrote g wr w4 := Wrote.of_below (Nat.le_of_lt HW.out.lt) hb4
    have HRw4 := Lhd (hRw.trans hr4)
    have HR4 := Lhd (HR.out.trans hr4)
    have Hx := Lhd (fun W (hW : Wrote g w4 W) => box8 (hW.2.2 _ _ _ (by decide) (by decide) hk4))
    have Hst := Lhd (fun W (hW : Wrote g w W) t' br' (hwt : WtAt g t' br' W) (hl : t'.length + (txtS d (k + 1) x).length ≤ 1000000000) => (show Calls Tryz.prog 127 #[.pointer (some ⟨g, 0, none⟩), .agg #[.int .i64 x.op, .string x.name, .string x.src, .int .i64 x.n, .slice Ac nc cc, .slice Ae ne ce, .slice Ab nb cb, .slice Al nl cl], .int .i64 ((k : Int) + 1)] W fun e' w' => e' = .returned (.tuple #[]) ∧ WtAt g (t' ++ txtS d (k + 1) x) (br' || nlS d x) w' ∧ Wrote g W w' from HS.out x _ g t' br' W (k + 1) (hat W hW).2 hbe HF.out hwt (Hm.out.below Hg.out hW.1) Hg.out (by have := Hk.out; omega) hl))
    clear hb4 hk4 hr4 hRw hat hbe hle he
    go_upto_region 6 with (fail)
    rw [← Hw4.out]
    clear z0 z1 z2 z3 z4 z5 z6 z7
    go_wp2_with (go_at_call 126; refine (Hr1.out _).mono ?_)
    rintro y w5 ⟨rfl, hb5⟩
    have hwt5 := hwt4.below hb5
    have hr5 : Wrote g w4 w5 := Wrote.of_below (Nat.le_of_lt hwt4.lt) hb5
    have HR5 := Lhd hr5
    clear hb5 hr5 hwt4
    go_wp2_with (fail)
    refine (put_new g 1 _ _ [⟨(indT (k + 1)).toArray⟩] _ hwt5 rfl (by decide) (by have h9 := Hl4.out; have h8 := indT_len (k + 1); simp [catL] at h9 ⊢; omega)).mono ?_
    rintro e' w6 ⟨rfl, hwt6, hr6⟩
    have HR6 := Lhd (HR5.out.trans hr6)
    obtain ⟨x0, x1, x2, x3, x4, x5, x6, x7, xl⟩ := Hx.out _ HR6.out
    clear hr6 hwt5
    go_wp2_with (fail)
    refine (Hst.out _ (HRw4.out.trans HR6.out) _ _ hwt6 (by have h9 := Hl4.out; have h8 := indT_len (k + 1); simp [catL] at h9 ⊢; omega)).mono ?_
    rintro e' w7 ⟨rfl, hwt7, hr7⟩
    have HR7 := Lhd (HR6.out.trans hr7)
    clear x0 x1 x2 x3 x4 x5 x6 x7 xl hr7 hwt6
    go_wp2_with (go_at_call 47; refine (put_new g 1 _ _ [⟨#[10]⟩] _ hwt7 rfl (by decide) (by have h9 := Hl4.out; have h8 := indT_len (k + 1); simp [catL] at h9 ⊢; omega)).mono ?_; rintro e' w8 ⟨rfl, hwt8, hr8⟩)
    have H8 := Lhd (And.intro hwt8 (HR4.out.trans (HR7.out.trans hr8)))
    clear hwt8 hr8 hwt7
    go_roundw
    case rel =>
     refine ⟨j + 1, by omega, by go_num, Lhd ?_, Lhd H8.out.2⟩
     rw [Hlt.out, Hat.out, ← Bool.or_assoc]
     simpa [catL] using H8.out.1
    case measure => simp [intOf]; omega
   ·obtain rfl : j = n := Nat.le_antisymm hj hge
    have e2 : xs.take j = xs := List.take_of_length_le (by omega)
    rw [e2] at HW
    have hw := HW.out
    have HRe := Lhd (HRb.out.trans HR.out)
    go_wp2_with (go_at_call 126; refine (Hr0.out _).mono ?_)
    rintro x w5 ⟨rfl, hb5⟩
    have hwt5 := hw.below hb5
    have HR5 := Lhd (HRe.out.trans (Wrote.of_below (Nat.le_of_lt hw.lt) hb5))
    clear hb5 hw
    go_wp2_with (fail)
    refine (put_new g 2 _ _ [⟨(indT k).toArray⟩, ⟨#[125]⟩] _ hwt5 rfl (by decide) (by have h9 := Hl.out; have h8 := indT_len k; simp [catL] at h9 ⊢; omega)).mono ?_
    rintro e' w6 ⟨rfl, hwt6, hr6⟩
    have H6 := Lhd (And.intro hwt6 (HR5.out.trans hr6))
    clear hwt6 hr6 hwt5
    go_wp2
    go_end0
    exact ⟨rfl, by simpa [catL] using H6.out.1, H6.out.2⟩
end Go.Proofs.YtjpiedpmnnepgaaGreatDoor
