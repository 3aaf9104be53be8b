/- Parts of this proof, one behind the other: PrtI. -/
import Derived.Test.YthiimingnmbgmaaDoorPe30
namespace Go.Proofs.YthiimingnmbgmaaDoor
open Go.RowKit Go.Afx

theorem index_any (c : UInt8) (l : List UInt8) : decide (0 ≤ Lib.indexByte l c) = l.any (· == c) := by
  induction l with
  | nil => rfl
  | cons b l ih =>
    unfold Lib.indexByte
    rw [List.any_cons]
    cases hb : b == c
    · simp only [Bool.false_eq_true, if_false, Bool.false_or]
      rw [← ih]
      have := Lib.indexByte_ge l c
      split
      · rename_i h
        have h : Lib.indexByte l c = -1 := by simpa using h
        rw [h]
      · rename_i h
        have h : Lib.indexByte l c ≠ -1 := by simpa using h
        have h1 : (0 : Int) ≤ Lib.indexByte l c := by omega
        have h2 : (0 : Int) ≤ Lib.indexByte l c + 1 := by omega
        rw [decide_eq_true h1, decide_eq_true h2]
    · simp
theorem WtAt.store {g : Nat} {t : List UInt8} {br : Bool} {w : World} (h : WtAt g t br w) (b2 : Bool) : WtAt g t b2 (w.setCell ⟨g, 2, none⟩ (.bool b2)) ∧ Wrote g w (w.setCell ⟨g, 2, none⟩ (.bool b2)) := by
  have hin : ∀ p, WtIn g t br p w → WtIn g t b2 p (w.setCell ⟨g, 2, none⟩ (.bool b2)) ∧ Wrote g w (w.setCell ⟨g, 2, none⟩ (.bool b2)) := by
    rintro p ⟨A, c, hk, ho⟩
    refine ⟨⟨A, c, hk.stored 2 _, ?_⟩, (Below.refl _ _).setCell (p := ⟨g, 2, none⟩) (Nat.le_refl _) _, keep_writer hk⟩
    exact own_but ho ((But.refl (fun i => i = g) w).setCell (p := ⟨g, 2, none⟩) (.inl rfl) _) (fun i hi e => by
      subst e
      have := (ho.lt i hi).1
      omega)
  rcases h with h | h
  · exact ⟨.inl (hin _ h).1, (hin _ h).2⟩
  · exact ⟨.inr (hin _ h).1, (hin _ h).2⟩
theorem WtAt.brk {g : Nat} {t : List UInt8} {br : Bool} {w : World} (h : WtAt g t br w) : w.cell? ⟨g, 2, none⟩ = some (.bool br) ∧ w.frozen? ⟨g, 2, none⟩ = false ∧ g < w.heap.size := by
  rcases h with ⟨A, c, hk, _⟩ | ⟨A, c, hk, _⟩ <;> exact ⟨(wtBox hk).2.2.1, hk.frozen 2, hk.lt⟩

set_option maxHeartbeats 2000000 in
theorem expr_text (n : Int) (s name src : ByteArray) (A : Option Addr) (m c : Nat) (g : Nat) (t : List UInt8) (br : Bool) (w : World) (h : WtAt g t br w) (hs : s.size ≤ 200) (hm : HasMax w) (hg : 0 < g) (hlen : t.length + (quoteS s).length ≤ 1000000000) :
    Calls Tryd.prog 17 #[.pointer (some ⟨g, 0, none⟩), .agg #[.int .i64 2, .int .i64 n, .string s, .string name, .string src, .slice A m c]] w fun e' w' => e' = .returned (.tuple #[]) ∧ WtAt g (t ++ quoteS s) (br || s.data.toList.any (· == 10)) w' ∧ Wrote g w w' := by
  have Hsg := Lib.hid (fun W => sign_any 2 W (by decide) (by decide))
  have Hcn := Lib.hid (fun W => (show Calls Tryd.prog 32 #[.string s, .string ⟨#[10]⟩] W fun e w' => e = .returned (.bool (s.data.toList.any (· == 10))) ∧ W = w' from by
    have h := Tryd.strings_Contains_one s 10 W
    rw [index_any] at h
    refine h.mono ?_
    rintro e w' ⟨rfl, rfl⟩
    exact ⟨rfl, rfl⟩))
  generalize s.data.toList.any (· == 10) = nl at *
  have Htx := Lib.hid (fun W => text_any s W)
  obtain ⟨w1, Hw1⟩ : ∃ w1, Hid (w1 = w.alloc (.cells #[.int .i64 2, .int .i64 n, .string s, .string name, .string src, .slice A m c] 35)) := ⟨_, rfl⟩
  have hb1 : Below w.heap.size w w1 := by rw [Hw1.out]; exact (Below.refl _ _).alloc (Nat.le_refl _) _
  have hk1 : IsBlk w1 w.heap.size 35 #[.int .i64 2, .int .i64 n, .string s, .string name, .string src, .slice A m c] := by rw [Hw1.out]; exact IsBlk.laid _ _ _
  have hr1 : Wrote g w w1 := Wrote.of_below (Nat.le_of_lt h.lt) hb1
  have Hx := Lib.hid (fun W (hW : Wrote g w1 W) => box6 (hW.2.2 _ _ _ (by decide) (by decide) hk1))
  have Hvt := Lib.hid (fun W (hW : Wrote g w W) => valText_any s W hs (hm.below hg hW.1))
  have hwt1 := h.below hb1
  have Hr1 := Lib.hid hr1
  obtain ⟨x0, x1, x2, x3, x4, x5, xl⟩ := Hx.out _ (Wrote.refl _ _)
  have Hlen := Lib.hid hlen
  clear hk1 h hlen hb1 hm hs hr1
  go_enter Tryd.func17, Tryd.ntmps17
  go_upto_region 1 with (fail)
  rw [← Hw1.out]
  go_wp2_with (go_at_call 29; refine (Hsg.out _).mono ?_)
  rintro e' w2 ⟨rfl, hb2⟩
  have hr2 : Wrote g w1 w2 := Wrote.of_below (Nat.le_of_lt hwt1.lt) hb2
  have hwt2 := hwt1.below hb2
  obtain ⟨y0, y1, y2, y3, y4, y5, yl⟩ := Hx.out _ hr2
  obtain ⟨b1, b2, b3⟩ := hwt2.brk
  clear x0 x1 x2 x3 x4 x5 hwt1 hb2
  have Hwt2 := Lib.hid hwt2
  have Hr2 := Lib.hid hr2
  clear hwt2 hr2
  cases br
  · go_upto_region 13 with (go_at_call 32; refine (Hcn.out _).mono ?_; rintro e' w3 ⟨rfl, rfl⟩)
    have hst := Hwt2.out.store nl
    generalize w2.setCell ⟨g, 2, none⟩ (.bool nl) = w3 at *
    obtain ⟨hwt3, hr3⟩ := hst
    have hr3' := Hr2.out.trans hr3
    obtain ⟨x0, x1, x2, x3, x4, x5, xl⟩ := Hx.out _ hr3'
    have Hr3 := Lib.hid hr3'
    have Hwt3 := Lib.hid hwt3
    clear y0 y1 y2 y3 y4 y5 b1 b2 b3 hr3 hr3' hwt3 yl
    go_wp2_with (go_at_call 34; refine (Htx.out _).mono ?_)
    rintro e' w4 ⟨rfl, hb4⟩
    have hr4 := Hr1.out.trans (Hr3.out.trans (Wrote.of_below (Nat.le_of_lt Hwt3.out.lt) hb4))
    have hwt4 := Hwt3.out.below hb4
    have Hv4 := Lib.hid (Hvt.out _ hr4)
    have Hr4 := Lib.hid (And.intro hwt4 hr4)
    clear hb4 hr4 hwt4 x0 x1 x2 x3 x4 x5 xl
    go_wp2_with (go_at_call 33; refine Hv4.out.mono ?_)
    rintro e' w5 ⟨rfl, hb5⟩
    have H5 := Lib.hid (And.intro (Hr4.out.1.below hb5) (Hr4.out.2.trans (Wrote.of_below (Nat.le_of_lt Hr4.out.1.lt) hb5)))
    clear hb5
    go_wp2_with (fail)
    refine (put_new g 1 t nl [⟨(quoteS s).toArray⟩] _ H5.out.1 rfl (by decide) (by simpa [catL] using Hlen.out)).mono ?_
    rintro e' w6 ⟨rfl, hwt6, hr6⟩
    have e6 : t ++ catL [⟨(quoteS s).toArray⟩] = t ++ quoteS s := by simp [catL]
    rw [e6] at hwt6
    have H6 := Lib.hid (And.intro hwt6 (H5.out.2.trans hr6))
    clear hwt6 hr6
    go_wp2
    go_end0
    exact ⟨rfl, by simpa using H6.out.1, H6.out.2⟩
  · go_upto_region 13 with (fail)
    have hst := Hwt2.out.store true
    generalize w2.setCell ⟨g, 2, none⟩ (.bool true) = w3 at *
    obtain ⟨hwt3, hr3⟩ := hst
    have hr3' := Hr2.out.trans hr3
    obtain ⟨x0, x1, x2, x3, x4, x5, xl⟩ := Hx.out _ hr3'
    have Hr3 := Lib.hid hr3'
    have Hwt3 := Lib.hid hwt3
    clear y0 y1 y2 y3 y4 y5 b1 b2 b3 hr3 hr3' hwt3 yl
    go_wp2_with (go_at_call 34; refine (Htx.out _).mono ?_)
    rintro e' w4 ⟨rfl, hb4⟩
    have hr4 := Hr1.out.trans (Hr3.out.trans (Wrote.of_below (Nat.le_of_lt Hwt3.out.lt) hb4))
    have hwt4 := Hwt3.out.below hb4
    have Hv4 := Lib.hid (Hvt.out _ hr4)
    have Hr4 := Lib.hid (And.intro hwt4 hr4)
    clear hb4 hr4 hwt4 x0 x1 x2 x3 x4 x5 xl
    go_wp2_with (go_at_call 33; refine Hv4.out.mono ?_)
    rintro e' w5 ⟨rfl, hb5⟩
    have H5 := Lib.hid (And.intro (Hr4.out.1.below hb5) (Hr4.out.2.trans (Wrote.of_below (Nat.le_of_lt Hr4.out.1.lt) hb5)))
    clear hb5
    go_wp2_with (fail)
    refine (put_new g 1 t true [⟨(quoteS s).toArray⟩] _ H5.out.1 rfl (by decide) (by simpa [catL] using Hlen.out)).mono ?_
    rintro e' w6 ⟨rfl, hwt6, hr6⟩
    have e6 : t ++ catL [⟨(quoteS s).toArray⟩] = t ++ quoteS s := by simp [catL]
    rw [e6] at hwt6
    have H6 := Lib.hid (And.intro hwt6 (H5.out.2.trans hr6))
    clear hwt6 hr6
    go_wp2
    go_end0
    exact ⟨rfl, by simpa using H6.out.1, H6.out.2⟩
end Go.Proofs.YthiimingnmbgmaaDoor
