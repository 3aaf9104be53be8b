/- Parts of this proof, one behind the other: PrsB, PrsC. -/
import Derived.Test.YtjpiedpmnnepgaaGreatDoorPz12
import Derived.Test.YtjpiedpmnnepgaaGreatDoorPz10
import Derived.StillTailTactics
set_option maxRecDepth 1000000
set_option maxHeartbeats 40000000
namespace Go.Proofs.YtjpiedpmnnepgaaGreatDoor
open Go.RowKit Go.Afx
theorem box8 {w : World} {g : Nat} {T : TypeId} {v0 v1 v2 v3 v4 v5 v6 v7 : Value} (h : IsBlk w g T #[v0, v1, v2, v3, v4, v5, v6, v7]) :
  w.cell? ⟨g, 0, none⟩ = some v0 ∧ w.cell? ⟨g, 1, none⟩ = some v1 ∧ w.cell? ⟨g, 2, none⟩ = some v2 ∧ w.cell? ⟨g, 3, none⟩ = some v3 ∧ w.cell? ⟨g, 4, none⟩ = some v4 ∧ w.cell? ⟨g, 5, none⟩ = some v5 ∧ w.cell? ⟨g, 6, none⟩ = some v6 ∧ w.cell? ⟨g, 7, none⟩ = some v7 ∧ g < w.heap.size := by
 have h0 := h.cell 0; have h1 := h.cell 1; have h2 := h.cell 2; have h3 := h.cell 3; have h4 := h.cell 4; have h5 := h.cell 5; have h6 := h.cell 6; have h7 := h.cell 7
 simp at h0 h1 h2 h3 h4 h5 h6 h7
 exact ⟨h0, h1, h2, h3, h4, h5, h6, h7, h.lt⟩
theorem plain_1 (name src : ByteArray) (n : Int) (Ac Ab Al : Option Addr) (nc cc nb cb nl cl : Nat) (Ae : Option Addr) (ne ce : Nat) (T : List UInt8) (B : Bool) (g : Nat) (t : List UInt8) (br : Bool) (w : World) (h : WtAt g t br w) (hD : Does g w 187 #[.pointer (some ⟨g, 0, none⟩), .slice Ae ne ce] T B)
  (hlen : t.length + ([108, 101, 116, 32] ++ name.data.toList ++ [32, 61, 32] ++ T).length ≤ 1000000000) :
  Calls Tryz.prog 162 #[.pointer (some ⟨g, 0, none⟩), .agg #[.int .i64 1, .string name, .string src, .int .i64 n, .slice Ac nc cc, .slice Ae ne ce, .slice Ab nb cb, .slice Al nl cl]] w fun e' w' => e' = .returned (.tuple #[]) ∧ WtAt g (t ++ ([108, 101, 116, 32] ++ name.data.toList ++ [32, 61, 32] ++ T)) (br || B) w' ∧ Wrote g w w' := by
 obtain ⟨w1, Hw1⟩ : ∃ w1, Hid (w1 = w.alloc (.cells #[.int .i64 1, .string name, .string src, .int .i64 n, .slice Ac nc cc, .slice Ae ne ce, .slice Ab nb cb, .slice Al nl cl] 68)) := ⟨_, rfl⟩
 have hb1 : Below w.heap.size w w1 := by rw [Hw1.out]; exact (Below.refl _ _).alloc (Nat.le_refl _) _
 have hk1 : IsBlk w1 w.heap.size 68 #[.int .i64 1, .string name, .string src, .int .i64 n, .slice Ac nc cc, .slice Ae ne ce, .slice Ab nb cb, .slice Al nl cl] := by rw [Hw1.out]; exact IsBlk.laid _ _ _
 have Hr0 := Lhd (Wrote.of_below (Nat.le_of_lt h.lt) hb1 : Wrote g w w1)
 have Hx := Lhd (fun W (hW : Wrote g w1 W) => box8 (hW.2.2 _ _ _ (by decide) (by decide) hk1))
 have hwt1 := h.below hb1
 have Hr1 := Lhd (Wrote.refl g w1)
 have Hlen := Lhd hlen
 have HD := Lhd hD
 obtain ⟨x0, x1, x2, x3, x4, x5, x6, x7, xl⟩ := Hx.out _ (Wrote.refl _ _)
 clear hk1 h hlen hb1 hD
 go_enter Tryz.func162, Tryz.ntmps162
 go_upto_region 1 with (fail)
 rw [← Hw1.out]
 go_wp2_with (fail)
 refine (put_new g 3 _ _ [⟨#[108, 101, 116, 32]⟩, name, ⟨#[32, 61, 32]⟩] _ hwt1 rfl (by decide) (by have h9 := Hlen.out; simp [catL] at h9 ⊢; omega)).mono ?_
 rintro e' w2 ⟨rfl, hwt2, hr2⟩
 have Hr2 := Lhd (Hr1.out.trans hr2)
 clear x0 x1 x2 x3 x4 x5 x6 x7 xl hwt1 hr2
 obtain ⟨x0, x1, x2, x3, x4, x5, x6, x7, xl⟩ := Hx.out _ Hr2.out
 go_wp2_with (fail)
 refine (HD.out _ _ _ (Hr0.out.trans Hr2.out) hwt2 (by have h9 := Hlen.out; simp [catL] at h9 ⊢; omega)).mono ?_
 rintro e' w3 ⟨rfl, hwt3, hr3⟩
 have Hr3 := Lhd (Hr2.out.trans hr3)
 clear x0 x1 x2 x3 x4 x5 x6 x7 xl hwt2 hr3
 obtain ⟨x0, x1, x2, x3, x4, x5, x6, x7, xl⟩ := Hx.out _ Hr3.out
 have H := Lhd (And.intro hwt3 (Hr0.out.trans Hr3.out))
 clear hwt3 x0 x1 x2 x3 x4 x5 x6 x7 xl
 go_wp2
 go_end0
 exact ⟨rfl, by simpa [catL] using H.out.1, H.out.2⟩
theorem plain_2 (name src : ByteArray) (n : Int) (Ac Ab Al : Option Addr) (nc cc nb cb nl cl : Nat) (Ae : Option Addr) (ne ce : Nat) (T : List UInt8) (B : Bool) (g : Nat) (t : List UInt8) (br : Bool) (w : World) (h : WtAt g t br w) (hD : Does g w 187 #[.pointer (some ⟨g, 0, none⟩), .slice Ae ne ce] T B)
  (hlen : t.length + ([115, 101, 116, 32] ++ name.data.toList ++ [32, 61, 32] ++ T).length ≤ 1000000000) :
  Calls Tryz.prog 162 #[.pointer (some ⟨g, 0, none⟩), .agg #[.int .i64 2, .string name, .string src, .int .i64 n, .slice Ac nc cc, .slice Ae ne ce, .slice Ab nb cb, .slice Al nl cl]] w fun e' w' => e' = .returned (.tuple #[]) ∧ WtAt g (t ++ ([115, 101, 116, 32] ++ name.data.toList ++ [32, 61, 32] ++ T)) (br || B) w' ∧ Wrote g w w' := by
 obtain ⟨w1, Hw1⟩ : ∃ w1, Hid (w1 = w.alloc (.cells #[.int .i64 2, .string name, .string src, .int .i64 n, .slice Ac nc cc, .slice Ae ne ce, .slice Ab nb cb, .slice Al nl cl] 68)) := ⟨_, rfl⟩
 have hb1 : Below w.heap.size w w1 := by rw [Hw1.out]; exact (Below.refl _ _).alloc (Nat.le_refl _) _
 have hk1 : IsBlk w1 w.heap.size 68 #[.int .i64 2, .string name, .string src, .int .i64 n, .slice Ac nc cc, .slice Ae ne ce, .slice Ab nb cb, .slice Al nl cl] := by rw [Hw1.out]; exact IsBlk.laid _ _ _
 have Hr0 := Lhd (Wrote.of_below (Nat.le_of_lt h.lt) hb1 : Wrote g w w1)
 have Hx := Lhd (fun W (hW : Wrote g w1 W) => box8 (hW.2.2 _ _ _ (by decide) (by decide) hk1))
 have hwt1 := h.below hb1
 have Hr1 := Lhd (Wrote.refl g w1)
 have Hlen := Lhd hlen
 have HD := Lhd hD
 obtain ⟨x0, x1, x2, x3, x4, x5, x6, x7, xl⟩ := Hx.out _ (Wrote.refl _ _)
 clear hk1 h hlen hb1 hD
 go_enter Tryz.func162, Tryz.ntmps162
 go_upto_region 1 with (fail)
 rw [← Hw1.out]
 go_wp2_with (fail)
 refine (put_new g 3 _ _ [⟨#[115, 101, 116, 32]⟩, name, ⟨#[32, 61, 32]⟩] _ hwt1 rfl (by decide) (by have h9 := Hlen.out; simp [catL] at h9 ⊢; omega)).mono ?_
 rintro e' w2 ⟨rfl, hwt2, hr2⟩
 have Hr2 := Lhd (Hr1.out.trans hr2)
 clear x0 x1 x2 x3 x4 x5 x6 x7 xl hwt1 hr2
 obtain ⟨x0, x1, x2, x3, x4, x5, x6, x7, xl⟩ := Hx.out _ Hr2.out
 go_wp2_with (fail)
 refine (HD.out _ _ _ (Hr0.out.trans Hr2.out) hwt2 (by have h9 := Hlen.out; simp [catL] at h9 ⊢; omega)).mono ?_
 rintro e' w3 ⟨rfl, hwt3, hr3⟩
 have Hr3 := Lhd (Hr2.out.trans hr3)
 clear x0 x1 x2 x3 x4 x5 x6 x7 xl hwt2 hr3
 obtain ⟨x0, x1, x2, x3, x4, x5, x6, x7, xl⟩ := Hx.out _ Hr3.out
 have H := Lhd (And.intro hwt3 (Hr0.out.trans Hr3.out))
 clear hwt3 x0 x1 x2 x3 x4 x5 x6 x7 xl
 go_wp2
 go_end0
 exact ⟨rfl, by simpa [catL] using H.out.1, H.out.2⟩
theorem plain_3 (name src : ByteArray) (n : Int) (Ac Ab Al : Option Addr) (nc cc nb cb nl cl : Nat) (Ae : Option Addr) (ne ce : Nat) (T : List UInt8) (B : Bool) (g : Nat) (t : List UInt8) (br : Bool) (w : World) (h : WtAt g t br w) (hD : Does g w 187 #[.pointer (some ⟨g, 0, none⟩), .slice Ae ne ce] T B)
  (hlen : t.length + ([105, 110, 115, 101, 114, 116, 32] ++ src.data.toList ++ [40] ++ T ++ [41]).length ≤ 1000000000) :
  Calls Tryz.prog 162 #[.pointer (some ⟨g, 0, none⟩), .agg #[.int .i64 3, .string name, .string src, .int .i64 n, .slice Ac nc cc, .slice Ae ne ce, .slice Ab nb cb, .slice Al nl cl]] w fun e' w' => e' = .returned (.tuple #[]) ∧ WtAt g (t ++ ([105, 110, 115, 101, 114, 116, 32] ++ src.data.toList ++ [40] ++ T ++ [41])) (br || B) w' ∧ Wrote g w w' := by
 obtain ⟨w1, Hw1⟩ : ∃ w1, Hid (w1 = w.alloc (.cells #[.int .i64 3, .string name, .string src, .int .i64 n, .slice Ac nc cc, .slice Ae ne ce, .slice Ab nb cb, .slice Al nl cl] 68)) := ⟨_, rfl⟩
 have hb1 : Below w.heap.size w w1 := by rw [Hw1.out]; exact (Below.refl _ _).alloc (Nat.le_refl _) _
 have hk1 : IsBlk w1 w.heap.size 68 #[.int .i64 3, .string name, .string src, .int .i64 n, .slice Ac nc cc, .slice Ae ne ce, .slice Ab nb cb, .slice Al nl cl] := by rw [Hw1.out]; exact IsBlk.laid _ _ _
 have Hr0 := Lhd (Wrote.of_below (Nat.le_of_lt h.lt) hb1 : Wrote g w w1)
 have Hx := Lhd (fun W (hW : Wrote g w1 W) => box8 (hW.2.2 _ _ _ (by decide) (by decide) hk1))
 have hwt1 := h.below hb1
 have Hr1 := Lhd (Wrote.refl g w1)
 have Hlen := Lhd hlen
 have HD := Lhd hD
 obtain ⟨x0, x1, x2, x3, x4, x5, x6, x7, xl⟩ := Hx.out _ (Wrote.refl _ _)
 clear hk1 h hlen hb1 hD
 go_enter Tryz.func162, Tryz.ntmps162
 go_upto_region 1 with (fail)
 rw [← Hw1.out]
 go_wp2_with (fail)
 refine (put_new g 3 _ _ [⟨#[105, 110, 115, 101, 114, 116, 32]⟩, src, ⟨#[40]⟩] _ hwt1 rfl (by decide) (by have h9 := Hlen.out; simp [catL] at h9 ⊢; omega)).mono ?_
 rintro e' w2 ⟨rfl, hwt2, hr2⟩
 have Hr2 := Lhd (Hr1.out.trans hr2)
 clear x0 x1 x2 x3 x4 x5 x6 x7 xl hwt1 hr2
 obtain ⟨x0, x1, x2, x3, x4, x5, x6, x7, xl⟩ := Hx.out _ Hr2.out
 go_wp2_with (fail)
 refine (HD.out _ _ _ (Hr0.out.trans Hr2.out) hwt2 (by have h9 := Hlen.out; simp [catL] at h9 ⊢; omega)).mono ?_
 rintro e' w3 ⟨rfl, hwt3, hr3⟩
 have Hr3 := Lhd (Hr2.out.trans hr3)
 clear x0 x1 x2 x3 x4 x5 x6 x7 xl hwt2 hr3
 obtain ⟨x0, x1, x2, x3, x4, x5, x6, x7, xl⟩ := Hx.out _ Hr3.out
 go_wp2_with (fail)
 refine (put_new g 1 _ _ [⟨#[41]⟩] _ hwt3 rfl (by decide) (by have h9 := Hlen.out; simp [catL] at h9 ⊢; omega)).mono ?_
 rintro e' w4 ⟨rfl, hwt4, hr4⟩
 have Hr4 := Lhd (Hr3.out.trans hr4)
 clear x0 x1 x2 x3 x4 x5 x6 x7 xl hwt3 hr4
 obtain ⟨x0, x1, x2, x3, x4, x5, x6, x7, xl⟩ := Hx.out _ Hr4.out
 have H := Lhd (And.intro hwt4 (Hr0.out.trans Hr4.out))
 clear hwt4 x0 x1 x2 x3 x4 x5 x6 x7 xl
 go_wp2
 go_end0
 exact ⟨rfl, by simpa [catL] using H.out.1, H.out.2⟩
theorem plain_8 (name src : ByteArray) (n : Int) (Ac Ab Al : Option Addr) (nc cc nb cb nl cl : Nat) (Ae : Option Addr) (ne ce : Nat) (T : List UInt8) (B : Bool) (g : Nat) (t : List UInt8) (br : Bool) (w : World) (h : WtAt g t br w) (hD : Does g w 187 #[.pointer (some ⟨g, 0, none⟩), .slice Ae ne ce] T B)
  (hlen : t.length + ([101, 109, 105, 116, 32] ++ src.data.toList ++ [40] ++ T ++ [41]).length ≤ 1000000000) :
  Calls Tryz.prog 162 #[.pointer (some ⟨g, 0, none⟩), .agg #[.int .i64 8, .string name, .string src, .int .i64 n, .slice Ac nc cc, .slice Ae ne ce, .slice Ab nb cb, .slice Al nl cl]] w fun e' w' => e' = .returned (.tuple #[]) ∧ WtAt g (t ++ ([101, 109, 105, 116, 32] ++ src.data.toList ++ [40] ++ T ++ [41])) (br || B) w' ∧ Wrote g w w' := by
 obtain ⟨w1, Hw1⟩ : ∃ w1, Hid (w1 = w.alloc (.cells #[.int .i64 8, .string name, .string src, .int .i64 n, .slice Ac nc cc, .slice Ae ne ce, .slice Ab nb cb, .slice Al nl cl] 68)) := ⟨_, rfl⟩
 have hb1 : Below w.heap.size w w1 := by rw [Hw1.out]; exact (Below.refl _ _).alloc (Nat.le_refl _) _
 have hk1 : IsBlk w1 w.heap.size 68 #[.int .i64 8, .string name, .string src, .int .i64 n, .slice Ac nc cc, .slice Ae ne ce, .slice Ab nb cb, .slice Al nl cl] := by rw [Hw1.out]; exact IsBlk.laid _ _ _
 have Hr0 := Lhd (Wrote.of_below (Nat.le_of_lt h.lt) hb1 : Wrote g w w1)
 have Hx := Lhd (fun W (hW : Wrote g w1 W) => box8 (hW.2.2 _ _ _ (by decide) (by decide) hk1))
 have hwt1 := h.below hb1
 have Hr1 := Lhd (Wrote.refl g w1)
 have Hlen := Lhd hlen
 have HD := Lhd hD
 obtain ⟨x0, x1, x2, x3, x4, x5, x6, x7, xl⟩ := Hx.out _ (Wrote.refl _ _)
 clear hk1 h hlen hb1 hD
 go_enter Tryz.func162, Tryz.ntmps162
 go_upto_region 1 with (fail)
 rw [← Hw1.out]
 go_wp2_with (fail)
 refine (put_new g 3 _ _ [⟨#[101, 109, 105, 116, 32]⟩, src, ⟨#[40]⟩] _ hwt1 rfl (by decide) (by have h9 := Hlen.out; simp [catL] at h9 ⊢; omega)).mono ?_
 rintro e' w2 ⟨rfl, hwt2, hr2⟩
 have Hr2 := Lhd (Hr1.out.trans hr2)
 clear x0 x1 x2 x3 x4 x5 x6 x7 xl hwt1 hr2
 obtain ⟨x0, x1, x2, x3, x4, x5, x6, x7, xl⟩ := Hx.out _ Hr2.out
 go_wp2_with (fail)
 refine (HD.out _ _ _ (Hr0.out.trans Hr2.out) hwt2 (by have h9 := Hlen.out; simp [catL] at h9 ⊢; omega)).mono ?_
 rintro e' w3 ⟨rfl, hwt3, hr3⟩
 have Hr3 := Lhd (Hr2.out.trans hr3)
 clear x0 x1 x2 x3 x4 x5 x6 x7 xl hwt2 hr3
 obtain ⟨x0, x1, x2, x3, x4, x5, x6, x7, xl⟩ := Hx.out _ Hr3.out
 go_wp2_with (fail)
 refine (put_new g 1 _ _ [⟨#[41]⟩] _ hwt3 rfl (by decide) (by have h9 := Hlen.out; simp [catL] at h9 ⊢; omega)).mono ?_
 rintro e' w4 ⟨rfl, hwt4, hr4⟩
 have Hr4 := Lhd (Hr3.out.trans hr4)
 clear x0 x1 x2 x3 x4 x5 x6 x7 xl hwt3 hr4
 obtain ⟨x0, x1, x2, x3, x4, x5, x6, x7, xl⟩ := Hx.out _ Hr4.out
 have H := Lhd (And.intro hwt4 (Hr0.out.trans Hr4.out))
 clear hwt4 x0 x1 x2 x3 x4 x5 x6 x7 xl
 go_wp2
 go_end0
 exact ⟨rfl, by simpa [catL] using H.out.1, H.out.2⟩
theorem plain_9 (name src : ByteArray) (n : Int) (Ac Ab Al : Option Addr) (nc cc nb cb nl cl : Nat) (Ae : Option Addr) (ne ce : Nat) (T : List UInt8) (B : Bool) (g : Nat) (t : List UInt8) (br : Bool) (w : World) (h : WtAt g t br w) (hD : Does g w 187 #[.pointer (some ⟨g, 0, none⟩), .slice Ae ne ce] T B)
  (hlen : t.length + ([97, 98, 111, 114, 116, 32] ++ T).length ≤ 1000000000) :
  Calls Tryz.prog 162 #[.pointer (some ⟨g, 0, none⟩), .agg #[.int .i64 9, .string name, .string src, .int .i64 n, .slice Ac nc cc, .slice Ae ne ce, .slice Ab nb cb, .slice Al nl cl]] w fun e' w' => e' = .returned (.tuple #[]) ∧ WtAt g (t ++ ([97, 98, 111, 114, 116, 32] ++ T)) (br || B) w' ∧ Wrote g w w' := by
 obtain ⟨w1, Hw1⟩ : ∃ w1, Hid (w1 = w.alloc (.cells #[.int .i64 9, .string name, .string src, .int .i64 n, .slice Ac nc cc, .slice Ae ne ce, .slice Ab nb cb, .slice Al nl cl] 68)) := ⟨_, rfl⟩
 have hb1 : Below w.heap.size w w1 := by rw [Hw1.out]; exact (Below.refl _ _).alloc (Nat.le_refl _) _
 have hk1 : IsBlk w1 w.heap.size 68 #[.int .i64 9, .string name, .string src, .int .i64 n, .slice Ac nc cc, .slice Ae ne ce, .slice Ab nb cb, .slice Al nl cl] := by rw [Hw1.out]; exact IsBlk.laid _ _ _
 have Hr0 := Lhd (Wrote.of_below (Nat.le_of_lt h.lt) hb1 : Wrote g w w1)
 have Hx := Lhd (fun W (hW : Wrote g w1 W) => box8 (hW.2.2 _ _ _ (by decide) (by decide) hk1))
 have hwt1 := h.below hb1
 have Hr1 := Lhd (Wrote.refl g w1)
 have Hlen := Lhd hlen
 have HD := Lhd hD
 obtain ⟨x0, x1, x2, x3, x4, x5, x6, x7, xl⟩ := Hx.out _ (Wrote.refl _ _)
 clear hk1 h hlen hb1 hD
 go_enter Tryz.func162, Tryz.ntmps162
 go_upto_region 1 with (fail)
 rw [← Hw1.out]
 go_wp2_with (fail)
 refine (put_new g 1 _ _ [⟨#[97, 98, 111, 114, 116, 32]⟩] _ hwt1 rfl (by decide) (by have h9 := Hlen.out; simp [catL] at h9 ⊢; omega)).mono ?_
 rintro e' w2 ⟨rfl, hwt2, hr2⟩
 have Hr2 := Lhd (Hr1.out.trans hr2)
 clear x0 x1 x2 x3 x4 x5 x6 x7 xl hwt1 hr2
 obtain ⟨x0, x1, x2, x3, x4, x5, x6, x7, xl⟩ := Hx.out _ Hr2.out
 go_wp2_with (fail)
 refine (HD.out _ _ _ (Hr0.out.trans Hr2.out) hwt2 (by have h9 := Hlen.out; simp [catL] at h9 ⊢; omega)).mono ?_
 rintro e' w3 ⟨rfl, hwt3, hr3⟩
 have Hr3 := Lhd (Hr2.out.trans hr3)
 clear x0 x1 x2 x3 x4 x5 x6 x7 xl hwt2 hr3
 obtain ⟨x0, x1, x2, x3, x4, x5, x6, x7, xl⟩ := Hx.out _ Hr3.out
 have H := Lhd (And.intro hwt3 (Hr0.out.trans Hr3.out))
 clear hwt3 x0 x1 x2 x3 x4 x5 x6 x7 xl
 go_wp2
 go_end0
 exact ⟨rfl, by simpa [catL] using H.out.1, H.out.2⟩
theorem plain_10 (name src : ByteArray) (n : Int) (Ac Ab Al : Option Addr) (nc cc nb cb nl cl : Nat) (Ae : Option Addr) (ne ce : Nat) (T : List UInt8) (B : Bool) (g : Nat) (t : List UInt8) (br : Bool) (w : World) (h : WtAt g t br w) (hD : Does g w 187 #[.pointer (some ⟨g, 0, none⟩), .slice Ae ne ce] T B)
  (hlen : t.length + ([114, 101, 112, 108, 121, 32] ++ T).length ≤ 1000000000) :
  Calls Tryz.prog 162 #[.pointer (some ⟨g, 0, none⟩), .agg #[.int .i64 10, .string name, .string src, .int .i64 n, .slice Ac nc cc, .slice Ae ne ce, .slice Ab nb cb, .slice Al nl cl]] w fun e' w' => e' = .returned (.tuple #[]) ∧ WtAt g (t ++ ([114, 101, 112, 108, 121, 32] ++ T)) (br || B) w' ∧ Wrote g w w' := by
 obtain ⟨w1, Hw1⟩ : ∃ w1, Hid (w1 = w.alloc (.cells #[.int .i64 10, .string name, .string src, .int .i64 n, .slice Ac nc cc, .slice Ae ne ce, .slice Ab nb cb, .slice Al nl cl] 68)) := ⟨_, rfl⟩
 have hb1 : Below w.heap.size w w1 := by rw [Hw1.out]; exact (Below.refl _ _).alloc (Nat.le_refl _) _
 have hk1 : IsBlk w1 w.heap.size 68 #[.int .i64 10, .string name, .string src, .int .i64 n, .slice Ac nc cc, .slice Ae ne ce, .slice Ab nb cb, .slice Al nl cl] := by rw [Hw1.out]; exact IsBlk.laid _ _ _
 have Hr0 := Lhd (Wrote.of_below (Nat.le_of_lt h.lt) hb1 : Wrote g w w1)
 have Hx := Lhd (fun W (hW : Wrote g w1 W) => box8 (hW.2.2 _ _ _ (by decide) (by decide) hk1))
 have hwt1 := h.below hb1
 have Hr1 := Lhd (Wrote.refl g w1)
 have Hlen := Lhd hlen
 have HD := Lhd hD
 obtain ⟨x0, x1, x2, x3, x4, x5, x6, x7, xl⟩ := Hx.out _ (Wrote.refl _ _)
 clear hk1 h hlen hb1 hD
 go_enter Tryz.func162, Tryz.ntmps162
 go_upto_region 1 with (fail)
 rw [← Hw1.out]
 go_wp2_with (fail)
 refine (put_new g 1 _ _ [⟨#[114, 101, 112, 108, 121, 32]⟩] _ hwt1 rfl (by decide) (by have h9 := Hlen.out; simp [catL] at h9 ⊢; omega)).mono ?_
 rintro e' w2 ⟨rfl, hwt2, hr2⟩
 have Hr2 := Lhd (Hr1.out.trans hr2)
 clear x0 x1 x2 x3 x4 x5 x6 x7 xl hwt1 hr2
 obtain ⟨x0, x1, x2, x3, x4, x5, x6, x7, xl⟩ := Hx.out _ Hr2.out
 go_wp2_with (fail)
 refine (HD.out _ _ _ (Hr0.out.trans Hr2.out) hwt2 (by have h9 := Hlen.out; simp [catL] at h9 ⊢; omega)).mono ?_
 rintro e' w3 ⟨rfl, hwt3, hr3⟩
 have Hr3 := Lhd (Hr2.out.trans hr3)
 clear x0 x1 x2 x3 x4 x5 x6 x7 xl hwt2 hr3
 obtain ⟨x0, x1, x2, x3, x4, x5, x6, x7, xl⟩ := Hx.out _ Hr3.out
 have H := Lhd (And.intro hwt3 (Hr0.out.trans Hr3.out))
 clear hwt3 x0 x1 x2 x3 x4 x5 x6 x7 xl
 go_wp2
 go_end0
 exact ⟨rfl, by simpa [catL] using H.out.1, H.out.2⟩
theorem plain_5 (name src : ByteArray) (n : Int) (Ac Ab Al : Option Addr) (nc cc nb cb nl cl : Nat) (b o ne ce : Nat) (a1 : Ex) (A1 : Option Addr) (m1 c1 : Nat) (T : List UInt8) (B : Bool) (g : Nat) (t : List UInt8) (br : Bool) (w : World) (h : WtAt g t br w) (hbg : b < g) (hne : 1 ≤ ne) (hS : Six w b o a1 A1 m1 c1) (hD : Does g w 54 #[.pointer (some ⟨g, 0, none⟩), .string name, .string src, .agg (rowOf a1 A1 m1 c1).toArray] T B)
  (hlen : t.length + ([100, 101, 108, 101, 116, 101, 32] ++ T).length ≤ 1000000000) :
  Calls Tryz.prog 162 #[.pointer (some ⟨g, 0, none⟩), .agg #[.int .i64 5, .string name, .string src, .int .i64 n, .slice Ac nc cc, .slice (some ⟨b, o, none⟩) ne ce, .slice Ab nb cb, .slice Al nl cl]] w fun e' w' => e' = .returned (.tuple #[]) ∧ WtAt g (t ++ ([100, 101, 108, 101, 116, 101, 32] ++ T)) (br || B) w' ∧ Wrote g w w' := by
 obtain ⟨w1, Hw1⟩ : ∃ w1, Hid (w1 = w.alloc (.cells #[.int .i64 5, .string name, .string src, .int .i64 n, .slice Ac nc cc, .slice (some ⟨b, o, none⟩) ne ce, .slice Ab nb cb, .slice Al nl cl] 68)) := ⟨_, rfl⟩
 have hb1 : Below w.heap.size w w1 := by rw [Hw1.out]; exact (Below.refl _ _).alloc (Nat.le_refl _) _
 have hk1 : IsBlk w1 w.heap.size 68 #[.int .i64 5, .string name, .string src, .int .i64 n, .slice Ac nc cc, .slice (some ⟨b, o, none⟩) ne ce, .slice Ab nb cb, .slice Al nl cl] := by rw [Hw1.out]; exact IsBlk.laid _ _ _
 have Hr0 := Lhd (Wrote.of_below (Nat.le_of_lt h.lt) hb1 : Wrote g w w1)
 have Hx := Lhd (fun W (hW : Wrote g w1 W) => box8 (hW.2.2 _ _ _ (by decide) (by decide) hk1))
 have hwt1 := h.below hb1
 have Hr1 := Lhd (Wrote.refl g w1)
 have Hlen := Lhd hlen
 have HD := Lhd hD
 have HS := Lhd (fun W (hW : Wrote g w W) => hS.wrote hbg hW)
 have Hbg := Lhd hbg
 have i1 : 0 < ne := by omega
 obtain ⟨x0, x1, x2, x3, x4, x5, x6, x7, xl⟩ := Hx.out _ (Wrote.refl _ _)
 clear hk1 h hlen hb1 hS hD hbg hne
 go_enter Tryz.func162, Tryz.ntmps162
 go_upto_region 1 with (fail)
 rw [← Hw1.out]
 go_wp2_with (fail)
 refine (put_new g 1 _ _ [⟨#[100, 101, 108, 101, 116, 101, 32]⟩] _ hwt1 rfl (by decide) (by have h9 := Hlen.out; simp [catL] at h9 ⊢; omega)).mono ?_
 rintro e' w2 ⟨rfl, hwt2, hr2⟩
 have Hr2 := Lhd (Hr1.out.trans hr2)
 clear x0 x1 x2 x3 x4 x5 x6 x7 xl hwt1 hr2
 obtain ⟨x0, x1, x2, x3, x4, x5, x6, x7, xl⟩ := Hx.out _ Hr2.out
 have hbd := (Below.refl w2.heap.size w2).drew
 have hr3 := Hr2.out.trans (Wrote.of_below (Nat.le_of_lt hwt2.lt) hbd)
 have hwt3 := hwt2.below hbd
 have Hc3 := Lhd (HD.out _ _ _ (Hr0.out.trans hr3) hwt3 (by have h9 := Hlen.out; simp [catL] at h9 ⊢; omega))
 have Hr3 := Lhd hr3
 have Hlo3 := Lhd hwt3.lt
 obtain ⟨z0, z1, z2, z3, z4, z5⟩ := HS.out _ (Hr0.out.trans Hr2.out)
 have hbl : b < w2.heap.size := by have := Hbg.out; have := hwt2.lt; omega
 clear hwt2 hbd hr3 hwt3
 go_upto_region 30 with (fail)
 go_still_tail 9, (by kernel_rfl)
 change wpList _ _ _ _ _ w2.drew
 generalize w2.drew = w3 at *
 clear x0 x1 x2 x3 x4 x5 x6 x7 xl z0 z1 z2 z3 z4 z5 hbl
 obtain ⟨x0, x1, x2, x3, x4, x5, x6, x7, xl⟩ := Hx.out _ Hr3.out
 obtain ⟨z0, z1, z2, z3, z4, z5⟩ := HS.out _ (Hr0.out.trans Hr3.out)
 have hbl : b < w3.heap.size := by have := Hbg.out; have := Hlo3.out; omega
 go_wp2_with (fail)
 refine Hc3.out.mono ?_
 rintro e' w4 ⟨rfl, hwt4, hr4⟩
 have Hr4 := Lhd (Hr3.out.trans hr4)
 clear x0 x1 x2 x3 x4 x5 x6 x7 xl z0 z1 z2 z3 z4 z5 hbl hr4
 obtain ⟨x0, x1, x2, x3, x4, x5, x6, x7, xl⟩ := Hx.out _ Hr4.out
 have H := Lhd (And.intro hwt4 (Hr0.out.trans Hr4.out))
 clear hwt4 x0 x1 x2 x3 x4 x5 x6 x7 xl
 go_wp2
 go_end0
 exact ⟨rfl, by simpa [catL] using H.out.1, H.out.2⟩
theorem setsT_len_eq {d : Nat} : ∀ {cols : List ByteArray} {es : List Ex}, cols.length = es.length → (setsT d cols es).length = cols.length := by
 intro cols
 induction cols with
 | nil => intro es _; rfl
 | cons c cs ih =>
  intro es h
  cases es with
  | nil => simp at h
  | cons e es => simp only [setsT, List.length_cons]; rw [ih (by simpa using h)]
theorem setsT_get {d : Nat} : ∀ {cols : List ByteArray} {es : List Ex} {k : Nat} {c : ByteArray} {e : Ex}, cols[k]? = some c → es[k]? = some e → (setsT d cols es)[k]? = some (c.data.toList ++ [32, 61, 32] ++ txtE d e) := by
 intro cols
 induction cols with
 | nil => intro es k c e h; simp at h
 | cons c0 cs ih =>
  intro es k c e h1 h2
  cases es with
  | nil => simp at h2
  | cons e0 es =>
   cases k with
   | zero => simp at h1 h2; subst h1 h2; simp [setsT]
   | succ k => simp only [setsT, List.getElem?_cons_succ] at h1 h2 ⊢; exact ih h1 h2
theorem strs_wrote {F : Nat → Prop} {n c g : Nat} {w : World} {A : Option Addr} {xs : List ByteArray} (h : LsAt F w 1 SRow A n c xs) (hF : ∀ k, F k → k < g) {k : Nat} (hk : k < n) :
  ∃ b o x, A = some ⟨b, o, none⟩ ∧ xs[k]? = some x ∧ okS x ∧ ∀ W, Wrote g w W → b < W.heap.size ∧ W.cell? ⟨b, o + k, none⟩ = some (.string x) := by
 obtain ⟨b, o, r, x, hA, hb, hFb, hx, _, ⟨rfl, hok⟩, hc⟩ := h.get hk
 exact ⟨b, o, x, hA, hx, hok, fun W hW => ⟨Nat.lt_of_lt_of_le hb hW.1.size, (hW.1.cell (p := ⟨b, o + k, none⟩) (hF b hFb)).trans (by simpa using hc 0 _ rfl)⟩⟩
theorem plain_4 (name src : ByteArray) (n : Int) (Ac Ab Al : Option Addr) (nc cc nb cb nl cl : Nat) (F : Nat → Prop) (d : Nat) (cols : List ByteArray) (rest : List Ex) (b o ce : Nat) (a1 : Ex) (A1 : Option Addr) (m1 c1 : Nat) (T : List UInt8) (B : Bool) (g : Nat) (t : List UInt8) (br : Bool) (w : World) (h : WtAt g t br w) (hcol : LsAt F w 1 SRow Ac nc cc cols) (hx : ExsAt F d w (some ⟨b, o, none⟩) (nc + 1) ce (a1 :: rest)) (hb : ∀ e ∈ rest, builtE d e = true) (hF : ∀ k, F k → k < g) (hm : HasMax w) (hg : 0 < g) (hnc : nc ≤ 1000)
  (hbg : b < g) (hS : Six w b o a1 A1 m1 c1) (hD : Does g w 54 #[.pointer (some ⟨g, 0, none⟩), .string name, .string src, .agg (rowOf a1 A1 m1 c1).toArray] T B)
  (hlen : t.length + ([117, 112, 100, 97, 116, 101, 32] ++ T ++ [32, 115, 101, 116, 32] ++ joinT (setsT d cols rest)).length ≤ 1000000000) :
  Calls Tryz.prog 162 #[.pointer (some ⟨g, 0, none⟩), .agg #[.int .i64 4, .string name, .string src, .int .i64 n, .slice Ac nc cc, .slice (some ⟨b, o, none⟩) (nc + 1) ce, .slice Ab nb cb, .slice Al nl cl]] w fun e' w' => e' = .returned (.tuple #[]) ∧ WtAt g (t ++ ([117, 112, 100, 97, 116, 101, 32] ++ T ++ [32, 115, 101, 116, 32] ++ joinT (setsT d cols rest))) (br || (B || rest.any (nlE d))) w' ∧ Wrote g w w' := by
 have hcl := LsAt.len hcol
 have hrl := LsAt.len hx
 rw [List.length_cons] at hrl
 have hsl := setsT_len_eq (d := d) (cols := cols) (es := rest) (by omega)
 have Hget := Lhd (fun k (hk : k < nc + 1) => exs_wrote hx hF hk)
 have Hcol := Lhd (fun k (hk : k < nc) => strs_wrote hcol hF hk)
 have Hb := Lhd hb
 have HF := Lhd hF
 have Hm := Lhd hm
 have Hg := Lhd hg
 obtain ⟨w1, Hw1⟩ : ∃ w1, Hid (w1 = w.alloc (.cells #[.int .i64 4, .string name, .string src, .int .i64 n, .slice Ac nc cc, .slice (some ⟨b, o, none⟩) (nc + 1) ce, .slice Ab nb cb, .slice Al nl cl] 68)) := ⟨_, rfl⟩
 have hb1 : Below w.heap.size w w1 := by rw [Hw1.out]; exact (Below.refl _ _).alloc (Nat.le_refl _) _
 have hk1 : IsBlk w1 w.heap.size 68 #[.int .i64 4, .string name, .string src, .int .i64 n, .slice Ac nc cc, .slice (some ⟨b, o, none⟩) (nc + 1) ce, .slice Ab nb cb, .slice Al nl cl] := by rw [Hw1.out]; exact IsBlk.laid _ _ _
 have Hr0 := Lhd (Wrote.of_below (Nat.le_of_lt h.lt) hb1 : Wrote g w w1)
 have Hx := Lhd (fun W (hW : Wrote g w1 W) => box8 (hW.2.2 _ _ _ (by decide) (by decide) hk1))
 have hwt1 := h.below hb1
 have Hr1 := Lhd (Wrote.refl g w1)
 have Hlen := Lhd hlen
 have HD := Lhd hD
 have HS := Lhd (fun W (hW : Wrote g w W) => hS.wrote hbg hW)
 have Hbg := Lhd hbg
 obtain ⟨x0, x1, x2, x3, x4, x5, x6, x7, xl⟩ := Hx.out _ (Wrote.refl _ _)
 clear hk1 h hlen hb1 hcol hx hb hF hm hg hS hD hbg
 go_enter Tryz.func162, Tryz.ntmps162
 go_upto_region 1 with (fail)
 rw [← Hw1.out]
 go_wp2_with (fail)
 refine (put_new g 1 _ _ [⟨#[117, 112, 100, 97, 116, 101, 32]⟩] _ hwt1 rfl (by decide) (by have h9 := Hlen.out; simp [catL] at h9 ⊢; omega)).mono ?_
 rintro e' w2 ⟨rfl, hwt2, hr2⟩
 have Hr2 := Lhd (Hr1.out.trans hr2)
 clear x0 x1 x2 x3 x4 x5 x6 x7 xl hwt1 hr2
 obtain ⟨x0, x1, x2, x3, x4, x5, x6, x7, xl⟩ := Hx.out _ Hr2.out
 have hbd := (Below.refl w2.heap.size w2).drew
 have hr3 := Hr2.out.trans (Wrote.of_below (Nat.le_of_lt hwt2.lt) hbd)
 have hwt3 := hwt2.below hbd
 have Hc3 := Lhd (HD.out _ _ _ (Hr0.out.trans hr3) hwt3 (by have h9 := Hlen.out; simp [catL] at h9 ⊢; omega))
 have Hr3 := Lhd hr3
 have Hlo3 := Lhd hwt3.lt
 obtain ⟨z0, z1, z2, z3, z4, z5⟩ := HS.out _ (Hr0.out.trans Hr2.out)
 have hbl : b < w2.heap.size := by have := Hbg.out; have := hwt2.lt; omega
 clear hwt2 hbd hr3 hwt3
 go_upto_region 18 with (fail)
 go_still_tail 9, (by kernel_rfl)
 change wpList _ _ _ _ _ w2.drew
 generalize w2.drew = w3 at *
 clear x0 x1 x2 x3 x4 x5 x6 x7 xl z0 z1 z2 z3 z4 z5 hbl
 obtain ⟨x0, x1, x2, x3, x4, x5, x6, x7, xl⟩ := Hx.out _ Hr3.out
 obtain ⟨z0, z1, z2, z3, z4, z5⟩ := HS.out _ (Hr0.out.trans Hr3.out)
 have hbl : b < w3.heap.size := by have := Hbg.out; have := Hlo3.out; omega
 go_wp2_with (fail)
 refine Hc3.out.mono ?_
 rintro e' w4 ⟨rfl, hwt4, hr4⟩
 have Hr4 := Lhd (Hr3.out.trans hr4)
 clear x0 x1 x2 x3 x4 x5 x6 x7 xl z0 z1 z2 z3 z4 z5 hbl hr4
 obtain ⟨x0, x1, x2, x3, x4, x5, x6, x7, xl⟩ := Hx.out _ Hr4.out
 go_wp2_with (fail)
 refine (put_new g 1 _ _ [⟨#[32, 115, 101, 116, 32]⟩] _ hwt4 rfl (by decide) (by have h9 := Hlen.out; simp [catL] at h9 ⊢; omega)).mono ?_
 rintro e' w5 ⟨rfl, hwt5, hr5⟩
 have Hr5 := Lhd (Hr4.out.trans hr5)
 clear x0 x1 x2 x3 x4 x5 x6 x7 xl hwt4 hr5
 obtain ⟨x0, x1, x2, x3, x4, x5, x6, x7, xl⟩ := Hx.out _ Hr5.out
 have e1 : t ++ catL [⟨#[117, 112, 100, 97, 116, 101, 32]⟩] ++ T ++ catL [⟨#[32, 115, 101, 116, 32]⟩] = t ++ [117, 112, 100, 97, 116, 101, 32] ++ T ++ [32, 115, 101, 116, 32] := by simp [catL]
 rw [e1] at hwt5
 have Hl := Lhd (show (t ++ [117, 112, 100, 97, 116, 101, 32] ++ T ++ [32, 115, 101, 116, 32]).length + (joinT (setsT d cols rest)).length ≤ 1000000000 from by have h9 := Hlen.out; simp at h9 ⊢; omega)
 have He1 := Lhd (show t ++ ([117, 112, 100, 97, 116, 101, 32] ++ T ++ [32, 115, 101, 116, 32] ++ joinT (setsT d cols rest)) = t ++ [117, 112, 100, 97, 116, 101, 32] ++ T ++ [32, 115, 101, 116, 32] ++ joinT (setsT d cols rest) from by simp)
 generalize t ++ [117, 112, 100, 97, 116, 101, 32] ++ T ++ [32, 115, 101, 116, 32] = P at *
 generalize hbp : (br || B) = BP at *
 have Hbp := Lhd hbp
 have Hw := Lhd hwt5
 have Hgl := Lhd hwt5.lt
 clear e1 hbp hwt5
 generalize w5 = wb at *
 have HRb := Lhd (Hr0.out.trans Hr5.out)
 have Hx2 := Lhd (fun W (hW : Wrote g wb W) => Hx.out W (Hr5.out.trans hW))
 go_wp2
 go_loopw [71] (fun i wr => ∃ k : Nat, k ≤ nc ∧ i = .int .i64 k ∧ Hid (WtAt g (P ++ joinT ((setsT d cols rest).take k)) (BP || (rest.take k).any (nlE d)) wr) ∧ Hid (Wrote g wb wr)) (fun i _ => nc - (intOf i).toNat)
 case atStart => exact ⟨0, Nat.zero_le _, rfl, Lhd (by simpa [joinT] using Hw.out), Lhd (Wrote.refl _ _)⟩
 case round =>
  obtain ⟨k, hk, rfl, HW, HR⟩ := hrel
  rcases Nat.lt_or_ge k nc with hlt | hge
  ·obtain ⟨b2, o2, c, rfl, hc2, hok, hcat⟩ := Hcol.out k hlt
   obtain ⟨b3, o3, e, A2, m2, c2, hA3, he, hat⟩ := Hget.out (k + 1) (by omega)
   injection hA3 with hA3
   injection hA3 with e1 e2
   subst e1 e2
   rw [List.getElem?_cons_succ] at he
   have hlm : k < (setsT d cols rest).length := by omega
   have hjl := joinT_take_le hlm
   have hjt := joinT_take hlm
   have hge : (setsT d cols rest)[k]'hlm = c.data.toList ++ [32, 61, 32] ++ txtE d e := by
    have h1 := setsT_get (d := d) hc2 he
    exact (List.getElem?_eq_some_iff.1 h1).2
   rw [hge] at hjl hjt
   have Hat := Lhd (any_take (p := nlE d) he)
   have hbe := Hb.out e (List.mem_of_getElem? he)
   have hRw := HRb.out.trans HR.out
   obtain ⟨hcl2, hcc⟩ := hcat _ hRw
   have He := Lhd (fun W (hW : Wrote g w W) t' br' (hwt : WtAt g t' br' W) (hl : t'.length + (txtE d e).length ≤ 1000000000) => expr_any d F e _ g t' br' W (hat W hW).2.2 hbe HF.out hwt (Hm.out.below Hg.out hW.1) Hg.out hl)
   have HS3 := Lhd (fun W (hW : Wrote g w W) => (hat W hW).2.1)
   have HB3 := Lhd (fun W (hW : Wrote g w W) => (hat W hW).1)
   have Hl4 := Lhd (show (P ++ joinT ((setsT d cols rest).take k)).length + (if k = 0 then 0 else 2) + (c.data.toList ++ [32, 61, 32] ++ txtE d e).length ≤ 1000000000 from by have := Hl.out; rw [List.length_append]; omega)
   have Hjt := Lhd hjt
   have HWk := Lhd HW.out.lt
   have hw := HW.out
   have i1 : (0 : Int) ≤ (k : Int) + 1 := by omega
   have i2 : (k : Int) + 1 < (nc : Int) + 1 := by omega
   have i3 : IntKind.i64.wrap ((k : Int) + 1) = (k : Int) + 1 := by simp only [IntKind.wrap, IntKind.bits, IntKind.signed]; simp; omega
   have i4 : ((k : Int) + 1).toNat = k + 1 := by omega
   clear hat hcat hjl hjt hge he hbe hlm hc2 hok
   go_upto_region 23 with (fail)
   clear hcl2 hcc
   rcases Nat.eq_zero_or_pos k with rfl | h0
   ·rw [if_pos rfl] at Hl4 Hjt
    go_wp2_with (fail)
    refine (put_new g 2 _ _ [c, ⟨#[32, 61, 32]⟩] _ hw rfl (by decide) (by have h9 := Hl4.out; simp [catL] at h9 ⊢; omega)).mono ?_
    rintro e' w5 ⟨rfl, hwt5, hr5⟩
    have HR5 := Lhd (HR.out.trans hr5)
    have HRw5 := Lhd (HRb.out.trans HR5.out)
    obtain ⟨x0, x1, x2, x3, x4, x5, x6, x7, xl⟩ := Hx2.out _ HR5.out
    obtain ⟨z0, z1, z2, z3, z4, z5⟩ := HS3.out _ HRw5.out
    have hbl := HB3.out _ HRw5.out
    clear hw hr5
    go_wp2_with (go_at_call 22; refine (He.out _ HRw5.out _ _ hwt5 (by have h9 := Hl4.out; simp [catL] at h9 ⊢; omega)).mono ?_; rintro e' w6 ⟨rfl, hwt6, hr6⟩)
    have H6 := Lhd (And.intro hwt6 (HR5.out.trans hr6))
    clear hwt6 hr6
    go_roundw
    case rel =>
     refine ⟨0 + 1, by omega, by go_num, Lhd ?_, Lhd H6.out.2⟩
     rw [Hjt.out, Hat.out, ← Bool.or_assoc]
     simpa [catL, joinT] using H6.out.1
    case measure => simp [intOf]; omega
   ·rw [if_neg (by omega)] at Hl4 Hjt
    go_wp2_with (fail)
    refine (put_new g 1 _ _ [⟨#[44, 32]⟩] _ hw rfl (by decide) (by have h9 := Hl4.out; have e2 : (catL [⟨#[44, 32]⟩]).length = 2 := rfl; omega)).mono ?_
    rintro e' w4 ⟨rfl, hwt4, hr4⟩
    have HR4 := Lhd (HR.out.trans hr4)
    clear hw hr4
    go_wp2_with (fail)
    refine (put_new g 2 _ _ [c, ⟨#[32, 61, 32]⟩] _ hwt4 rfl (by decide) (by have h9 := Hl4.out; simp [catL] at h9 ⊢; omega)).mono ?_
    rintro e' w5 ⟨rfl, hwt5, hr5⟩
    have HR5 := Lhd (HR4.out.trans hr5)
    have HRw5 := Lhd (HRb.out.trans HR5.out)
    obtain ⟨x0, x1, x2, x3, x4, x5, x6, x7, xl⟩ := Hx2.out _ HR5.out
    obtain ⟨z0, z1, z2, z3, z4, z5⟩ := HS3.out _ HRw5.out
    have hbl := HB3.out _ HRw5.out
    clear hwt4 hr5
    go_wp2_with (go_at_call 22; refine (He.out _ HRw5.out _ _ hwt5 (by have h9 := Hl4.out; simp [catL] at h9 ⊢; omega)).mono ?_; rintro e' w6 ⟨rfl, hwt6, hr6⟩)
    have H6 := Lhd (And.intro hwt6 (HR5.out.trans hr6))
    clear hwt6 hr6
    go_roundw
    case rel =>
     refine ⟨k + 1, by omega, by go_num, Lhd ?_, Lhd H6.out.2⟩
     rw [Hjt.out, Hat.out, ← Bool.or_assoc]
     simpa [catL] using H6.out.1
    case measure => simp [intOf]; omega
  ·obtain rfl : k = nc := Nat.le_antisymm hk hge
   have e1 : (setsT d cols rest).take k = setsT d cols rest := List.take_of_length_le (by omega)
   have e2 : rest.take k = rest := List.take_of_length_le (by omega)
   rw [e1, e2] at HW
   go_wp2
   go_end0
   have hf : WtAt g (t ++ ([117, 112, 100, 97, 116, 101, 32] ++ T ++ [32, 115, 101, 116, 32] ++ joinT (setsT d cols rest))) (br || (B || rest.any (nlE d))) wr := by
    rw [He1.out, ← Bool.or_assoc, Hbp.out]
    exact HW.out
   exact ⟨rfl, by simpa using hf, HRb.out.trans HR.out⟩
end Go.Proofs.YtjpiedpmnnepgaaGreatDoor
