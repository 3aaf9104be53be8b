/- Parts of this proof, one behind the other: SynA, SynB. -/
import Derived.Test.YtlakeanldbdedaaGreatProg
import Derived.Test.YtlakeanldbdedaaGreatPr3
import Derived.WalkSpells
import Derived.WalkLawsBesides
import Derived.Deep.QuietTactic
import Derived.BigQuiet
import Derived.BigRegion
import Derived.Outline
import Derived.Lib.Hide
namespace Go.Proofs.YtlakeanldbdedaaGreat
open Go.RowKit Go.Afx


theorem over_any (a b : Int) (w : World) (ha : 0 ≤ a) (hb : 0 ≤ b) (ha' : a ≤ 1000) (hb' : b ≤ 1000) :
    Calls Tryz.prog 53 #[.agg #[.int .i64 a, .int .i64 b]] w fun e w' => e = .returned (.agg #[.int .i64 (overZ (a, b)).1, .int .i64 (overZ (a, b)).2]) ∧ Below w.heap.size w w' := by
  go_enter Tryz.func53, Tryz.ntmps53
  go_wp2
  all_goals
    refine bodyPost_ret (v := .agg #[.int .i64 (overZ (a, b)).1, .int .i64 (overZ (a, b)).2]) ?_ rfl ⟨rfl, ?_⟩
    · simp [results, Tryz.results53, go_sem, overZ]
      omega
    · exact ((Below.refl _ _).alloc (Nat.le_refl _) _).alloc (by simp) _

theorem full_any (g : Nat) (a b : Int) (w : World) (hk : IsBlk w g 54 #[.int .i64 a, .int .i64 b]) :
    Calls Tryz.prog 49 #[.pointer (some ⟨g, 0, none⟩)] w fun e w' => e = .returned (.bool (fullZ (a, b))) ∧ w = w' := by
  have h0 := hk.cell 0
  have h1 := hk.cell 1
  simp at h0 h1
  have hlt := hk.lt
  go_enter Tryz.func49, Tryz.ntmps49
  go_wp2
  all_goals
    go_ret
    refine ⟨ret_bool ?_, rfl⟩
    simp_all [fullZ]

theorem blk_two {w : World} {g : Nat} {T : TypeId} {a b x y X Y : Int} {o : Obj} (hk : IsBlk w g T #[.int .i64 a, .int .i64 b]) (hx : X = x) (hy : Y = y) :
    IsBlk (((w.setCell ⟨g, 0, none⟩ (.int .i64 X)).setCell ⟨g, 1, none⟩ (.int .i64 Y)).alloc o).drew g T #[.int .i64 x, .int .i64 y] := by
  subst hx hy
  exact ((hk.stored 0 _).stored 1 _).alloc o
theorem ret_ib {a b : Int} {x y : Bool} (h : a = b) (k : x = y) : Ending.returned (.tuple #[.int .i64 a, .bool x]) = .returned (.tuple #[.int .i64 b, .bool y]) := by rw [h, k]

theorem add_any (g : Nat) (a b c d : Int) (w : World) (hk : IsBlk w g 54 #[.int .i64 a, .int .i64 b]) (ha : 0 ≤ a) (ha' : a ≤ 1000) (hc : 0 ≤ c) (hc' : c ≤ 1000) :
    Calls Tryz.prog 50 #[.pointer (some ⟨g, 0, none⟩), .agg #[.int .i64 c, .int .i64 d]] w fun e w' => e = .returned (.tuple #[]) ∧
      IsBlk w' g 54 #[.int .i64 (addZ (a, b) (c, d)).1, .int .i64 (addZ (a, b) (c, d)).2] ∧ But (fun k => k = g) w w' := by
  have h0 := hk.cell 0
  have h1 := hk.cell 1
  simp at h0 h1
  have hlt := hk.lt
  have hfz := hk.frozen
  go_enter Tryz.func50, Tryz.ntmps50
  go_wp2
  go_region
  all_goals go_wp2
  all_goals
    go_end0
    exact ⟨rfl, blk_two hk (by simp only [addZ]; omega) (by simp only [addZ]; omega), ((((But.refl (fun k => k = g) w).setCell (p := ⟨g, 0, none⟩) (.inl rfl) _).setCell (p := ⟨g, 1, none⟩) (.inl rfl) _).alloc _).drew⟩
theorem small_any (g : Nat) (a b : Int) (w : World) (hk : IsBlk w g 54 #[.int .i64 a, .int .i64 b]) :
    Calls Tryz.prog 21 #[.pointer (some ⟨g, 0, none⟩)] w fun e w' => e = .returned (.bool (smallZ (a, b))) ∧ w = w' := by
  have h0 := hk.cell 0
  have h1 := hk.cell 1
  simp at h0 h1
  have hlt := hk.lt
  go_enter Tryz.func21, Tryz.ntmps21
  go_wp2
  all_goals
    go_ret
    refine ⟨ret_bool ?_, rfl⟩
    simp_all [smallZ]
    try omega

theorem args_any (op : Int) (w : World) :
    Calls Tryz.prog 105 #[.int .i64 op] w fun e w' => e = .returned (.tuple #[.int .i64 (arityB op), .bool (rowsB op)]) ∧ w = w' := by
  go_enter Tryz.func105, Tryz.ntmps105
  go_wp2
  all_goals
    go_ret2
    (try simp only [beq_iff_eq, beq_eq_false_iff_ne, ne_eq] at *)
    first | (exfalso; omega) | exact ⟨ret_ib (by unfold arityB; repeat (first | rw [if_pos (by omega)] | rw [if_neg (by omega)])) (by simp [rowsB]; try omega), by first | rfl | trivial⟩
end Go.Proofs.YtlakeanldbdedaaGreat

namespace Go.Proofs.YtlakeanldbdedaaGreat
open Go.RowKit Go.Afx

def SizesE (F : Nat → Prop) (d : Nat) : Prop := ∀ (e : Ex) (row : List Value) (lv : Int) (w : World), ExAt F d w row e → 0 ≤ lv → lv + d ≤ 100000 →
  Calls Tryz.prog 52 #[.agg row.toArray, .int .i64 lv] w fun x w' => x = .returned (.agg #[.int .i64 (sizeE d lv e).1, .int .i64 (sizeE d lv e).2]) ∧ Below w.heap.size w w'

theorem drop_cons {α : Type} {l : List α} {k : Nat} {x : α} (h : l[k]? = some x) : l.drop k = x :: l.drop (k + 1) := by
  obtain ⟨hk, rfl⟩ := List.getElem?_eq_some_iff.1 h
  exact List.drop_eq_getElem_cons hk

set_option maxRecDepth 100000 in
set_option maxHeartbeats 1000000 in
theorem allE_any (F : Nat → Prop) (d : Nat) (ih : SizesE F d) (A : Option Addr) (n c : Nat) (es : List Ex) (lv : Int) (w : World) (h : ExsAt F d w A n c es) (h0 : 0 ≤ lv) (h1 : lv + d ≤ 100000) :
    Calls Tryz.prog 51 #[.slice A n c, .int .i64 lv, .func (.func 52) #[] #[]] w fun x w' => x = .returned (.agg #[.int .i64 (allZ lv (sizeE d lv) (0, 0) es).1, .int .i64 (allZ lv (sizeE d lv) (0, 0) es).2]) ∧ Below w.heap.size w w' := by
  have hn := h.n_le
  have Hlen := Lib.hid h.len
  obtain ⟨w2, Hw2⟩ : ∃ w2, Hid (w2 = (w.alloc (.cells #[.int .i64 0, .int .i64 0] 54)).alloc (.cells #[.int .i64 0, .int .i64 0] 54)) := ⟨_, rfl⟩
  have hb2 : Below w.heap.size w w2 := by rw [Hw2.out]; exact ((Below.refl _ _).alloc (Nat.le_refl _) _).alloc (by simp) _
  have hr2 : IsBlk w2 w.heap.size 54 #[.int .i64 0, .int .i64 0] := by rw [Hw2.out]; exact (IsBlk.laid _ _ _).alloc _
  have hs2 : IsBlk w2 (w.heap.size + 1) 54 #[.int .i64 0, .int .i64 0] := by
    have := IsBlk.laid (w.alloc (.cells #[.int .i64 0, .int .i64 0] 54)) 54 #[.int .i64 0, .int .i64 0]
    rw [Hw2.out]; simpa using this
  go_enter Tryz.func51, Tryz.ntmps51
  go_wp2
  rw [← Hw2.out]
  go_loopw [12] (fun i wr => ∃ (k : Nat) (s : Int × Int), k ≤ n ∧ i = .int .i64 k ∧ IsBlk wr (w.heap.size + 1) 54 #[.int .i64 s.1, .int .i64 s.2] ∧ IsBlk wr w.heap.size 54 #[.int .i64 0, .int .i64 0] ∧ Zok s ∧
    allZ lv (sizeE d lv) (0, 0) es = allZ lv (sizeE d lv) s (es.drop k) ∧ Below w.heap.size w wr) (fun i _ => n - (intOf i).toNat)
  case atStart => exact ⟨0, (0, 0), Nat.zero_le _, rfl, hs2, hr2, Zok.nought, rfl, hb2⟩
  case round =>
    obtain ⟨k, ⟨s1, s2⟩, hk, rfl, hs, hr, hz, heq, hb⟩ := hrel
    have Heq := Lib.hid heq
    clear heq hs2 hr2 hb2 Hw2
    have hlt := hr.lt
    have hlts := hs.lt
    obtain ⟨z1, z2, z3, z4⟩ := hz
    simp only at z1 z2 z3 z4
    have hr0 := hr.cell 0
    have hr1 := hr.cell 1
    have hs0 := hs.cell 0
    have hs1 := hs.cell 1
    simp at hr0 hr1 hs0 hs1
    have hrf := hr.frozen
    by_cases hlt' : k < n
    · cases d with
      | zero =>
        obtain ⟨b, o, r, e, hA, hbl, _, he, hl, hp, hc⟩ := LsAt.get (h.below hb) hlt'
        exact hp.elim
      | succ d =>
        obtain ⟨b, o, e, A2, m2, c2, rfl, hbl, hek, hc0, hc1, hc2, hc3, hc4, hc5, hp, _⟩ := ExsAt.get (h.below hb) hlt'
        have Hd := Lib.hid (drop_cons hek)
        clear hek
        have hf := fun W (hk : IsBlk W (w.heap.size + 1) 54 #[.int .i64 s1, .int .i64 s2]) => full_any (w.heap.size + 1) s1 s2 W hk
        obtain ⟨fl, Hfl⟩ : ∃ fl, Hid (fullZ (s1, s2) = fl) := ⟨_, rfl⟩
        rw [Hfl.out] at hf
        have Hf := Lib.hid hf
        clear hf
        have hsn := hs.alloc (.cells #[.int .i64 e.op, .int .i64 e.n, .string e.s, .string e.name, .string e.src, .slice A2 m2 c2] 41)
        have hrn := hr.alloc (.cells #[.int .i64 e.op, .int .i64 e.n, .string e.s, .string e.name, .string e.src, .slice A2 m2 c2] 41)
        have hbn := hb.alloc hb.size (.cells #[.int .i64 e.op, .int .i64 e.n, .string e.s, .string e.name, .string e.src, .slice A2 m2 c2] 41)
        have hpn := hp.below ((Below.refl wr.heap.size wr).alloc (Nat.le_refl _) (.cells #[.int .i64 e.op, .int .i64 e.n, .string e.s, .string e.name, .string e.src, .slice A2 m2 c2] 41))
        cases fl
        · by_cases hlv : lv < 1000
          · go_wp2_with (first | (go_at_call 49; refine (Hf.out _ hsn).mono ?_; rintro x w' ⟨rfl, rfl⟩))
            have hz2 := sizeE_ok (d + 1) lv e
            obtain ⟨y1, y2, y3, y4⟩ := hz2
            have Hih := Lib.hid (ih e _ lv _ hpn h0 (by omega))
            refine Hih.out.mono ?_
            rintro x w3 ⟨rfl, hb3⟩
            have hs3 := hsn.as_was (hb3.block _ hsn.lt)
            have hr3 := hrn.as_was (hb3.block _ hrn.lt)
            have hb03 := hbn.trans (hb3.mono hbn.size)
            go_wp2_with fail
            refine (add_any (w.heap.size + 1) s1 s2 _ _ w3 hs3 z1 z2 y1 y2).mono ?_
            rintro x w4 ⟨rfl, hs4, hbut4⟩
            have hr4 := hr3.as_was (hbut4.block _ hr3.lt (by omega))
            have hb04 := hb03.trans (hbut4.below' hb03.size (fun i hi => by omega))
            go_wp2
            go_roundw
            case rel => exact ⟨k + 1, addZ (s1, s2) (sizeE (d + 1) lv e), by omega, by go_num, hs4, hr4, Zok.add ⟨z1, z2, z3, z4⟩ ⟨y1, y2, y3, y4⟩, by rw [Heq.out, Hd.out, allZ, Hfl.out]; simp; intro hh; omega, hb04⟩
            case measure => simp [intOf]; omega
          · go_wp2_with (first | (go_at_call 49; refine (Hf.out _ hsn).mono ?_; rintro x w' ⟨rfl, rfl⟩))
            refine bodyPost_ret (v := .agg #[.int .i64 1000, .int .i64 1000]) (by simp [results, Tryz.results51, go_sem, hr0, hr1, hlt]) rfl ⟨?_, ((hb.setCell (p := ⟨w.heap.size, 0, none⟩) (Nat.le_refl _) _).setCell (p := ⟨w.heap.size, 1, none⟩) (Nat.le_refl _) _).alloc (by simpa using hb.size) _⟩
            rw [Heq.out, Hd.out, allZ, Hfl.out, if_pos (by simp; omega)]
        · go_wp2_with (first | (go_at_call 49; refine (Hf.out _ hsn).mono ?_; rintro x w' ⟨rfl, rfl⟩))
          refine bodyPost_ret (v := .agg #[.int .i64 1000, .int .i64 1000]) (by simp [results, Tryz.results51, go_sem, hr0, hr1, hlt]) rfl ⟨?_, ((hb.setCell (p := ⟨w.heap.size, 0, none⟩) (Nat.le_refl _) _).setCell (p := ⟨w.heap.size, 1, none⟩) (Nat.le_refl _) _).alloc (by simpa using hb.size) _⟩
          rw [Heq.out, Hd.out, allZ, Hfl.out, if_pos (by simp)]
    · go_wp2
      refine bodyPost_ret (v := .agg #[.int .i64 s1, .int .i64 s2]) (by simp [results, Tryz.results51, go_sem, hr0, hr1]) rfl ⟨?_, (hb.setCell (p := ⟨w.heap.size, 0, none⟩) (Nat.le_refl _) _).setCell (p := ⟨w.heap.size, 1, none⟩) (Nat.le_refl _) _⟩
      rw [Heq.out, List.drop_of_length_le (by rw [Hlen.out]; omega)]
      rfl

theorem laid_at {w : World} {g : Nat} (hg : g = w.heap.size) (T : TypeId) (cs : Array Value) : IsBlk (w.alloc (.cells cs T)) g T cs := by subst hg; exact IsBlk.laid _ _ _

set_option maxHeartbeats 400000 in
theorem sizeE_any (F : Nat → Prop) (d : Nat) : SizesE F d := by
  induction d with
  | zero => intro e row lv w h; exact h.elim
  | succ d ih =>
    intro e row lv w h h0 h1
    obtain ⟨A, m, c, rfl, hl⟩ := h.open_.2.2.2.2.2
    have hb1 : Below w.heap.size w (w.alloc (.cells #[.int .i64 e.op, .int .i64 e.n, .string e.s, .string e.name, .string e.src, .slice A m c] 41)) := (Below.refl _ _).alloc (Nat.le_refl _) _
    have hb2 := hb1.alloc hb1.size (.cells #[.int .i64 0, .int .i64 0] 54)
    have Hall := Lib.hid (allE_any F d ih A m c e.args (lv + 1) _ (hl.below hb2) (by omega) (by omega))
    obtain ⟨y1, y2, y3, y4⟩ := Zok.all (lv := lv + 1) (l := e.args) (sizeE_ok d (lv + 1)) Zok.nought
    have hr2 : IsBlk ((w.alloc (.cells #[.int .i64 e.op, .int .i64 e.n, .string e.s, .string e.name, .string e.src, .slice A m c] 41)).alloc (.cells #[.int .i64 0, .int .i64 0] 54)) (w.heap.size + 1) 54 #[.int .i64 0, .int .i64 0] := laid_at (by simp) _ _
    have Hr2 := Lib.hid hr2
    clear hr2
    go_enter Tryz.func52, Tryz.ntmps52
    go_wp2_with (first | (go_at_call 51; refine Hall.out.mono ?_; rintro x w3 ⟨rfl, hb3⟩; have hr3 := Hr2.out.as_was (hb3.block _ Hr2.out.lt); have hb03 := hb2.trans (hb3.mono hb2.size)) | (go_at_call 53; refine (over_any _ _ _ y1 y3 y2 y4).mono ?_; rintro x w4 ⟨rfl, hb4⟩; have hr4 := hr3.as_was (hb4.block _ hr3.lt); have q0 := hr4.cell 0; have q1 := hr4.cell 1; simp at q0 q1; have qf := hr4.frozen; have ql := hr4.lt))
    have hb04 := hb03.trans (hb4.mono hb03.size)
    refine bodyPost_ret (v := .agg #[.int .i64 (sizeE (d + 1) lv e).1, .int .i64 (sizeE (d + 1) lv e).2]) (by simp [results, Tryz.results52, go_sem, q0, q1, sizeE]) rfl ⟨rfl, (hb04.setCell (p := ⟨w.heap.size + 1, 0, none⟩) (by simp) _).setCell (p := ⟨w.heap.size + 1, 1, none⟩) (by simp) _⟩
end Go.Proofs.YtlakeanldbdedaaGreat
