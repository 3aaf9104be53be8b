/- Parts of this proof, one behind the other: SynC. -/
import Derived.Test.YtlakeanldbdedaaGreatPr6
namespace Go.Proofs.YtlakeanldbdedaaGreat
open Go.RowKit Go.Afx

def SizesS (F : Nat → Prop) (d : Nat) : Prop := ∀ (e : St) (row : List Value) (lv : Int) (w : World), StAt F d w row e → 0 ≤ lv → lv + d ≤ 100000 →
  Calls Tryz.prog 19 #[.agg row.toArray, .int .i64 lv] w fun x w' => x = .returned (.agg #[.int .i64 (sizeS d lv e).1, .int .i64 (sizeS d lv e).2]) ∧ Below w.heap.size w w'

set_option maxRecDepth 100000 in
set_option maxHeartbeats 1000000 in
theorem allS_any (F : Nat → Prop) (d : Nat) (ih : SizesS F d) (A : Option Addr) (n c : Nat) (es : List St) (lv : Int) (w : World) (h : StsAt F d w A n c es) (h0 : 0 ≤ lv) (h1 : lv + d ≤ 100000) :
    Calls Tryz.prog 18 #[.slice A n c, .int .i64 lv, .func (.func 19) #[] #[]] w fun x w' => x = .returned (.agg #[.int .i64 (allZ lv (sizeS d lv) (0, 0) es).1, .int .i64 (allZ lv (sizeS d lv) (0, 0) es).2]) ∧ Below w.heap.size w w' := by
  have hn := h.n_le
  have Hlen := Lib.hid h.len
  obtain ⟨w2, Hw2⟩ : ∃ w2, Hid (w2 = (w.alloc (.cells #[.int .i64 0, .int .i64 0] 54)).alloc (.cells #[.int .i64 0, .int .i64 0] 54)) := ⟨_, rfl⟩
  have hb2 : Below w.heap.size w w2 := by rw [Hw2.out]; exact ((Below.refl _ _).alloc (Nat.le_refl _) _).alloc (by simp) _
  have hr2 : IsBlk w2 w.heap.size 54 #[.int .i64 0, .int .i64 0] := by rw [Hw2.out]; exact (IsBlk.laid _ _ _).alloc _
  have hs2 : IsBlk w2 (w.heap.size + 1) 54 #[.int .i64 0, .int .i64 0] := by
    have := IsBlk.laid (w.alloc (.cells #[.int .i64 0, .int .i64 0] 54)) 54 #[.int .i64 0, .int .i64 0]
    rw [Hw2.out]; simpa using this
  go_enter Tryz.func18, Tryz.ntmps18
  go_wp2
  rw [← Hw2.out]
  go_loopw [12] (fun i wr => ∃ (k : Nat) (s : Int × Int), k ≤ n ∧ i = .int .i64 k ∧ IsBlk wr (w.heap.size + 1) 54 #[.int .i64 s.1, .int .i64 s.2] ∧ IsBlk wr w.heap.size 54 #[.int .i64 0, .int .i64 0] ∧ Zok s ∧
    allZ lv (sizeS d lv) (0, 0) es = allZ lv (sizeS d lv) s (es.drop k) ∧ Below w.heap.size w wr) (fun i _ => n - (intOf i).toNat)
  case atStart => exact ⟨0, (0, 0), Nat.zero_le _, rfl, hs2, hr2, Zok.nought, rfl, hb2⟩
  case round =>
    obtain ⟨k, ⟨s1, s2⟩, hk, rfl, hs, hr, hz, heq, hb⟩ := hrel
    have Heq := Lib.hid heq
    clear heq hs2 hr2 hb2 Hw2
    have hlt := hr.lt
    have hlts := hs.lt
    obtain ⟨z1, z2, z3, z4⟩ := hz
    simp only at z1 z2 z3 z4
    have hr0 := hr.cell 0
    have hr1 := hr.cell 1
    have hs0 := hs.cell 0
    have hs1 := hs.cell 1
    simp at hr0 hr1 hs0 hs1
    have hrf := hr.frozen
    by_cases hlt' : k < n
    · cases d with
      | zero =>
        obtain ⟨b, o, r, e, hA, hbl, _, he, hl, hp, hc⟩ := LsAt.get (h.below hb) hlt'
        exact hp.elim
      | succ d =>
        obtain ⟨b, o, e, Ac, nc, cc, Ae, ne, ce, Ab, nb, cb, Al, nl, cl, rfl, hbl, hek, hc0, hc1, hc2, hc3, hc4, hc5, hc6, hc7, hp, _⟩ := StsAt.get (h.below hb) hlt'
        have Hd := Lib.hid (drop_cons hek)
        clear hek
        have hf := fun W (hk : IsBlk W (w.heap.size + 1) 54 #[.int .i64 s1, .int .i64 s2]) => full_any (w.heap.size + 1) s1 s2 W hk
        obtain ⟨fl, Hfl⟩ : ∃ fl, Hid (fullZ (s1, s2) = fl) := ⟨_, rfl⟩
        rw [Hfl.out] at hf
        have Hf := Lib.hid hf
        clear hf
        have hsn := hs.alloc (.cells #[.int .i64 e.op, .string e.name, .string e.src, .int .i64 e.n, .slice Ac nc cc, .slice Ae ne ce, .slice Ab nb cb, .slice Al nl cl] 58)
        have hrn := hr.alloc (.cells #[.int .i64 e.op, .string e.name, .string e.src, .int .i64 e.n, .slice Ac nc cc, .slice Ae ne ce, .slice Ab nb cb, .slice Al nl cl] 58)
        have hbn := hb.alloc hb.size (.cells #[.int .i64 e.op, .string e.name, .string e.src, .int .i64 e.n, .slice Ac nc cc, .slice Ae ne ce, .slice Ab nb cb, .slice Al nl cl] 58)
        have hpn := hp.below ((Below.refl wr.heap.size wr).alloc (Nat.le_refl _) (.cells #[.int .i64 e.op, .string e.name, .string e.src, .int .i64 e.n, .slice Ac nc cc, .slice Ae ne ce, .slice Ab nb cb, .slice Al nl cl] 58))
        cases fl
        · by_cases hlv : lv < 1000
          · go_wp2_with (first | (go_at_call 49; refine (Hf.out _ hsn).mono ?_; rintro x w' ⟨rfl, rfl⟩))
            have hz2 := sizeS_ok (d + 1) lv e
            obtain ⟨y1, y2, y3, y4⟩ := hz2
            have Hih := Lib.hid (ih e _ lv _ hpn h0 (by omega))
            refine Hih.out.mono ?_
            rintro x w3 ⟨rfl, hb3⟩
            have hs3 := hsn.as_was (hb3.block _ hsn.lt)
            have hr3 := hrn.as_was (hb3.block _ hrn.lt)
            have hb03 := hbn.trans (hb3.mono hbn.size)
            go_wp2_with fail
            refine (add_any (w.heap.size + 1) s1 s2 _ _ w3 hs3 z1 z2 y1 y2).mono ?_
            rintro x w4 ⟨rfl, hs4, hbut4⟩
            have hr4 := hr3.as_was (hbut4.block _ hr3.lt (by omega))
            have hb04 := hb03.trans (hbut4.below' hb03.size (fun i hi => by omega))
            go_wp2
            go_roundw
            case rel => exact ⟨k + 1, addZ (s1, s2) (sizeS (d + 1) lv e), by omega, by go_num, hs4, hr4, Zok.add ⟨z1, z2, z3, z4⟩ ⟨y1, y2, y3, y4⟩, by rw [Heq.out, Hd.out, allZ, Hfl.out]; simp; intro hh; omega, hb04⟩
            case measure => simp [intOf]; omega
          · go_wp2_with (first | (go_at_call 49; refine (Hf.out _ hsn).mono ?_; rintro x w' ⟨rfl, rfl⟩))
            refine bodyPost_ret (v := .agg #[.int .i64 1000, .int .i64 1000]) (by simp [results, Tryz.results18, go_sem, hr0, hr1, hlt]) rfl ⟨?_, ((hb.setCell (p := ⟨w.heap.size, 0, none⟩) (Nat.le_refl _) _).setCell (p := ⟨w.heap.size, 1, none⟩) (Nat.le_refl _) _).alloc (by simpa using hb.size) _⟩
            rw [Heq.out, Hd.out, allZ, Hfl.out, if_pos (by simp; omega)]
        · go_wp2_with (first | (go_at_call 49; refine (Hf.out _ hsn).mono ?_; rintro x w' ⟨rfl, rfl⟩))
          refine bodyPost_ret (v := .agg #[.int .i64 1000, .int .i64 1000]) (by simp [results, Tryz.results18, go_sem, hr0, hr1, hlt]) rfl ⟨?_, ((hb.setCell (p := ⟨w.heap.size, 0, none⟩) (Nat.le_refl _) _).setCell (p := ⟨w.heap.size, 1, none⟩) (Nat.le_refl _) _).alloc (by simpa using hb.size) _⟩
          rw [Heq.out, Hd.out, allZ, Hfl.out, if_pos (by simp)]
    · go_wp2
      refine bodyPost_ret (v := .agg #[.int .i64 s1, .int .i64 s2]) (by simp [results, Tryz.results18, go_sem, hr0, hr1]) rfl ⟨?_, (hb.setCell (p := ⟨w.heap.size, 0, none⟩) (Nat.le_refl _) _).setCell (p := ⟨w.heap.size, 1, none⟩) (Nat.le_refl _) _⟩
      rw [Heq.out, List.drop_of_length_le (by rw [Hlen.out]; omega)]
      rfl


set_option maxRecDepth 100000 in
set_option maxHeartbeats 1000000 in
theorem sizeS_any (F : Nat → Prop) (d : Nat) : SizesS F d := by
  induction d with
  | zero => intro e row lv w h; exact h.elim
  | succ d ih =>
    intro e row lv w h h0 h1
    obtain ⟨Ac, nc, cc, Ae, ne, ce, Ab, nb, cb, Al, nl, cl, rfl, hcl, hel, hbl, hll⟩ := h.open_.2.2.2.2
    have hb1 : Below w.heap.size w (w.alloc (.cells #[.int .i64 e.op, .string e.name, .string e.src, .int .i64 e.n, .slice Ac nc cc, .slice Ae ne ce, .slice Ab nb cb, .slice Al nl cl] 58)) := (Below.refl _ _).alloc (Nat.le_refl _) _
    have hb2 := hb1.alloc hb1.size (.cells #[.int .i64 0, .int .i64 0] 54)
    have hr2 : IsBlk ((w.alloc (.cells #[.int .i64 e.op, .string e.name, .string e.src, .int .i64 e.n, .slice Ac nc cc, .slice Ae ne ce, .slice Ab nb cb, .slice Al nl cl] 58)).alloc (.cells #[.int .i64 0, .int .i64 0] 54)) (w.heap.size + 1) 54 #[.int .i64 0, .int .i64 0] := laid_at (by simp) _ _
    have hx2 : IsBlk ((w.alloc (.cells #[.int .i64 e.op, .string e.name, .string e.src, .int .i64 e.n, .slice Ac nc cc, .slice Ae ne ce, .slice Ab nb cb, .slice Al nl cl] 58)).alloc (.cells #[.int .i64 0, .int .i64 0] 54)) w.heap.size 58 #[.int .i64 e.op, .string e.name, .string e.src, .int .i64 e.n, .slice Ac nc cc, .slice Ae ne ce, .slice Ab nb cb, .slice Al nl cl] := (IsBlk.laid _ _ _).alloc _
    have Hall := Lib.hid (allE_any F d (sizeE_any F d) Ae ne ce e.exprs (lv + 1) _ (hel.below hb2) (by omega) (by omega))
    have HallB := Lib.hid (fun W (hW : Below w.heap.size w W) => allS_any F d ih Ab nb cb e.body (lv + 1) W (hbl.below hW) (by omega) (by omega))
    have HallL := Lib.hid (fun W (hW : Below w.heap.size w W) => allS_any F d ih Al nl cl e.els (lv + 1) W (hll.below hW) (by omega) (by omega))
    have ze := Zok.all (lv := lv + 1) (l := e.exprs) (sizeE_ok d (lv + 1)) Zok.nought
    have zb := Zok.all (lv := lv + 1) (l := e.body) (sizeS_ok d (lv + 1)) Zok.nought
    have zl := Zok.all (lv := lv + 1) (l := e.els) (sizeS_ok d (lv + 1)) Zok.nought
    have hfin : overZ (addZ (addZ (allZ (lv + 1) (sizeE d (lv + 1)) (0, 0) e.exprs) (allZ (lv + 1) (sizeS d (lv + 1)) (0, 0) e.body)) (allZ (lv + 1) (sizeS d (lv + 1)) (0, 0) e.els)) = sizeS (d + 1) lv e := rfl
    have Hr2 := Lib.hid hr2
    have Hx2 := Lib.hid hx2
    generalize allZ (lv + 1) (sizeE d (lv + 1)) (0, 0) e.exprs = sE at *
    generalize allZ (lv + 1) (sizeS d (lv + 1)) (0, 0) e.body = sB at *
    generalize allZ (lv + 1) (sizeS d (lv + 1)) (0, 0) e.els = sL at *
    generalize sizeS (d + 1) lv e = fin at *
    have z1 := ze.add zb
    have z2 := z1.add zl
    have Hfin := Lib.hid hfin
    clear hfin hr2 hx2 ih
    obtain ⟨e1, e2⟩ := sE
    obtain ⟨b1, b2⟩ := sB
    obtain ⟨l1, l2⟩ := sL
    go_enter Tryz.func19, Tryz.ntmps19
    go_wp2_with fail
    refine Hall.out.mono ?_
    rintro x w3 ⟨rfl, hb3⟩
    have hr3 := Hr2.out.as_was (hb3.block _ Hr2.out.lt)
    have hx3 := Hx2.out.as_was (hb3.block _ Hx2.out.lt)
    have hb03 := hb2.trans (hb3.mono hb2.size)
    have hx6 := hx3.cell 6
    simp at hx6
    have hs4 : IsBlk (w3.alloc (.cells #[.int .i64 e1, .int .i64 e2] 54)) w3.heap.size 54 #[.int .i64 e1, .int .i64 e2] := laid_at rfl _ _
    have hb04 := hb03.alloc hb03.size (.cells #[.int .i64 e1, .int .i64 e2] 54)
    have hr4 := hr3.alloc (.cells #[.int .i64 e1, .int .i64 e2] 54)
    have hx4 := hx3.alloc (.cells #[.int .i64 e1, .int .i64 e2] 54)
    have hlt3 := hx3.lt
    have hlt3r := hr3.lt
    go_wp2_with fail
    refine (HallB.out _ hb04).mono ?_
    rintro x w5 ⟨rfl, hb5⟩
    have hs5 := hs4.as_was (hb5.block _ hs4.lt)
    have hr5 := hr4.as_was (hb5.block _ hr4.lt)
    have hx5 := hx4.as_was (hb5.block _ hx4.lt)
    have hb05 := hb04.trans (hb5.mono hb04.size)
    go_wp2_with fail
    refine (add_any _ e1 e2 b1 b2 w5 hs5 ze.1 ze.2.1 zb.1 zb.2.1).mono ?_
    rintro x w6 ⟨rfl, hs6, hbut6⟩
    have hr6 := hr5.as_was (hbut6.block _ hr5.lt (fun h => by have h : w.heap.size + 1 = w3.heap.size := h; omega))
    have hx6' := hx5.as_was (hbut6.block _ hx5.lt (fun h => by have h : w.heap.size = w3.heap.size := h; omega))
    have hb06 := hb05.trans (hbut6.below' hb05.size (fun i hi => by omega))
    have hx67 := hx6'.cell 7
    simp at hx67
    generalize addZ (e1, e2) (b1, b2) = sq at *
    obtain ⟨q1, q2⟩ := sq
    go_wp2_with fail
    refine (HallL.out _ hb06).mono ?_
    rintro x w7 ⟨rfl, hb7⟩
    have hs7 := hs6.as_was (hb7.block _ hs6.lt)
    have hr7 := hr6.as_was (hb7.block _ hr6.lt)
    have hb07 := hb06.trans (hb7.mono hb06.size)
    go_wp2_with fail
    refine (add_any _ q1 q2 l1 l2 w7 hs7 z1.1 z1.2.1 zl.1 zl.2.1).mono ?_
    rintro x w8 ⟨rfl, hs8, hbut8⟩
    have hr8 := hr7.as_was (hbut8.block _ hr7.lt (fun h => by have h : w.heap.size + 1 = w3.heap.size := h; omega))
    have hb08 := hb07.trans (hbut8.below' hb07.size (fun i hi => by omega))
    generalize addZ (q1, q2) (l1, l2) = sr at *
    obtain ⟨r1, r2⟩ := sr
    have hs80 := hs8.cell 0
    have hs81 := hs8.cell 1
    simp at hs80 hs81
    go_wp2_with fail
    refine (over_any r1 r2 w8 z2.1 z2.2.2.1 z2.2.1 z2.2.2.2).mono ?_
    rintro x w9 ⟨rfl, hb9⟩
    have hr9 := hr8.as_was (hb9.block _ hr8.lt)
    have g0 := hr9.cell 0
    have g1 := hr9.cell 1
    simp at g0 g1
    have qf := hr9.frozen
    have ql := hr9.lt
    have hb09 := hb08.trans (hb9.mono hb08.size)
    rw [Hfin.out]
    obtain ⟨f1, f2⟩ := fin
    go_wp2_with fail
    refine bodyPost_ret (v := .agg #[.int .i64 f1, .int .i64 f2]) (by simp [results, Tryz.results19, go_sem, g0, g1]) rfl ⟨rfl, (hb09.setCell (p := ⟨w.heap.size + 1, 0, none⟩) (by simp) _).setCell (p := ⟨w.heap.size + 1, 1, none⟩) (by simp) _⟩
end Go.Proofs.YtlakeanldbdedaaGreat
