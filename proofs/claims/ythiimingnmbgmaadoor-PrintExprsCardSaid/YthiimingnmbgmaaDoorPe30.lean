/- Parts of this proof, one behind the other: PrtG. -/
import Derived.Test.YthiimingnmbgmaaDoorPe29
namespace Go.Proofs.YthiimingnmbgmaaDoor
open Go.RowKit Go.Afx

/-- what writing an expression does -/
def ExprC (F : Nat → Prop) (d : Nat) : Prop := ∀ (e : Ex) (row : List Value) (g : Nat) (t : List UInt8) (br : Bool) (w : World), ExAt F d w row e → builtE d e = true → (∀ k, F k → k < g) → WtAt g t br w → HasMax w → 0 < g → t.length + (txtE d e).length ≤ 1000000000 →
  Calls Tryd.prog 17 #[.pointer (some ⟨g, 0, none⟩), .agg row.toArray] w fun e' w' => e' = .returned (.tuple #[]) ∧ WtAt g (t ++ txtE d e) (br || nlE d e) w' ∧ Wrote g w w'
theorem ExAt.wrote {F : Nat → Prop} {d g : Nat} {w w' : World} {row : List Value} {e : Ex} (h : ExAt F d w row e) (hF : ∀ k, F k → k < g) (hw : Wrote g w w') : ExAt F d w' row e :=
  h.kept ⟨hw.1.size, fun k _ hf => hw.1.block k (hF k hf)⟩
theorem ex_row {F : Nat → Prop} {d : Nat} {w : World} {row : List Value} {e : Ex} (h : ExAt F d w row e) : ∃ A m c, row = [.int .i64 e.op, .int .i64 e.n, .string e.s, .string e.name, .string e.src, .slice A m c] := by
  cases d with
  | zero => exact h.elim
  | succ d => obtain ⟨_, _, _, _, _, A, m, c, h, _⟩ := h.open_; exact ⟨A, m, c, h⟩
theorem box6 {w : World} {g : Nat} {T : TypeId} {v0 v1 v2 v3 v4 v5 : Value} (h : IsBlk w g T #[v0, v1, v2, v3, v4, v5]) : w.cell? ⟨g, 0, none⟩ = some v0 ∧ w.cell? ⟨g, 1, none⟩ = some v1 ∧ w.cell? ⟨g, 2, none⟩ = some v2 ∧ w.cell? ⟨g, 3, none⟩ = some v3 ∧ w.cell? ⟨g, 4, none⟩ = some v4 ∧ w.cell? ⟨g, 5, none⟩ = some v5 ∧ g < w.heap.size := by
  have h0 := h.cell 0; have h1 := h.cell 1; have h2 := h.cell 2; have h3 := h.cell 3; have h4 := h.cell 4; have h5 := h.cell 5
  simp at h0 h1 h2 h3 h4 h5
  exact ⟨h0, h1, h2, h3, h4, h5, h.lt⟩
/-- a text is put from a list that was just laid -/
theorem put_new (g n : Nat) (t : List UInt8) (br : Bool) (xs : List ByteArray) (w : World) (h : WtAt g t br w) (hn : xs.length = n) (hn2 : n ≤ 1000) (hlen : t.length + (catL xs).length ≤ 1000000000) :
    Calls Tryd.prog 30 #[.pointer (some ⟨g, 0, none⟩), .slice (some ⟨w.heap.size, 0, none⟩) n n] (w.alloc (.cells (xs.map Value.string).toArray 9)) fun e w' => e = .returned (.tuple #[]) ∧ WtAt g (t ++ catL xs) br w' ∧ Wrote g w w' := by
  have hb := (Below.refl w.heap.size w).alloc (Nat.le_refl _) (.cells (xs.map Value.string).toArray 9)
  refine (put_any g w.heap.size n t br xs _ (h.below hb) (IsBlk.laid _ _ _) hn hn2 hlen).mono ?_
  rintro e w' ⟨rfl, h1, h2⟩
  exact ⟨rfl, h1, (Wrote.of_below (Nat.le_of_lt h.lt) hb).trans h2⟩

set_option maxHeartbeats 1000000 in
theorem operand_in (F : Nat → Prop) (d : Nat) (hE : ExprC F d) (e : Ex) (row : List Value) (least : Int) (g : Nat) (t : List UInt8) (br : Bool) (w : World) (hx : ExAt F d w row e) (hb : builtE d e = true) (hF : ∀ k, F k → k < g) (h : WtAt g t br w) (hm : HasMax w) (hg : 0 < g) (hlen : t.length + (opnd least e.op (txtE d e)).length ≤ 1000000000) :
    Calls Tryd.prog 36 #[.pointer (some ⟨g, 0, none⟩), .agg row.toArray, .int .i64 least] w fun e' w' => e' = .returned (.tuple #[]) ∧ WtAt g (t ++ opnd least e.op (txtE d e)) (br || nlE d e) w' ∧ Wrote g w w' := by
  obtain ⟨o1, o2⟩ := built_op hb
  obtain ⟨A, m, c, hrow⟩ := ex_row hx
  obtain ⟨l1, l2⟩ := lvlZ_bd o1 o2
  have Hsg := Lib.hid (fun W => sign_any e.op W o1 o2)
  have Hlow := Lib.hid (h.lt)
  obtain ⟨w1, Hw1⟩ : ∃ w1, Hid (w1 = w.alloc (.cells row.toArray 35)) := ⟨_, rfl⟩
  have hb1 : Wrote g w w1 := by rw [Hw1.out]; exact Wrote.of_below (Nat.le_of_lt h.lt) ((Below.refl _ _).alloc (Nat.le_refl _) _)
  have hk1 : IsBlk w1 w.heap.size 35 row.toArray := by rw [Hw1.out]; exact IsBlk.laid _ _ _
  have hwt1 : WtAt g t br w1 := by rw [Hw1.out]; exact h.below ((Below.refl _ _).alloc (Nat.le_refl _) _)
  have Hx := Lib.hid (fun W (hW : Wrote g w1 W) => (show IsBlk W w.heap.size 35 row.toArray from hW.2.2 _ _ _ (by decide) (by decide) hk1))
  have Hee := Lib.hid (fun W (hW : Wrote g w1 W) t' (hwt : WtAt g t' br W) (hl : t'.length + (txtE d e).length ≤ 1000000000) => hE e row g t' br W (ExAt.wrote hx hF (hb1.trans hW)) hb hF hwt (hm.below hg (hb1.trans hW).1) hg hl)
  subst hrow
  have Hb1 := Lib.hid hb1
  have Hlen := Lib.hid hlen
  clear hE hx hm hF hb h hk1 hlen
  by_cases hc : lvlZ e.op < least
  · have hop : opnd least e.op (txtE d e) = [40] ++ txtE d e ++ [41] := by unfold opnd; rw [if_pos hc]
    rw [hop] at Hlen ⊢
    have hdc : decide (lvlZ e.op < least) = true := by simp [hc]
    go_enter_defers Tryd.func36, Tryd.ntmps36
    go_upto_region 1 with (fail)
    rw [← Hw1.out]
    obtain ⟨x0, x1, x2, x3, x4, x5, xl⟩ := box6 (Hx.out _ (Wrote.refl _ _))
    go_wp2_with (go_at_call 29; refine (Hsg.out _).mono ?_; rintro e' w2 ⟨rfl, hb2⟩)
    have Hr2 := Lib.hid (Wrote.of_below (Nat.le_of_lt hwt1.lt) hb2)
    have h2 := hwt1.below hb2
    clear hwt1 hb1
    refine (put_new g 1 t br [⟨#[40]⟩] _ h2 rfl (by decide) (by
      have := Hlen.out
      simp only [List.length_append, List.length_cons, List.length_nil] at this
      simp only [catL, List.map_cons, List.map_nil, List.flatten_cons, List.flatten_nil, List.length_append, List.length_cons, List.length_nil]
      omega)).mono ?_
    rintro e' w3 ⟨rfl, hwt3, hr3⟩
    have hr3' := Hr2.out.trans hr3
    have Hr3 := Lib.hid hr3'
    have e3 : t ++ catL [⟨#[40]⟩] = t ++ [40] := rfl
    rw [e3] at hwt3
    obtain ⟨y0, y1, y2, y3, y4, y5, yl⟩ := box6 (Hx.out _ hr3')
    have hb4 := (Below.refl w3.heap.size w3).alloc (Nat.le_refl _) (.cells #[.string ⟨#[41]⟩] 9)
    have Hr4 := Lib.hid (hr3'.trans (Wrote.of_below (Nat.le_of_lt hwt3.lt) hb4))
    have Hwt4 := Lib.hid (hwt3.below hb4)
    have Hk4 := Lib.hid (show IsBlk (w3.alloc (.cells #[.string ⟨#[41]⟩] 9)) w3.heap.size 9 #[.string ⟨#[41]⟩] from IsBlk.laid _ _ _)
    clear x0 x1 x2 x3 x4 x5 hr3 hr3' hwt3 hb2 h2 hb4
    have Hl4 := Lib.hid (show (t ++ [40]).length + (txtE d e).length ≤ 1000000000 from by
      have := Hlen.out
      simp only [List.length_append, List.length_cons, List.length_nil] at this ⊢
      omega)
    go_wp2_with (go_at_call 17; refine (Hee.out _ Hr4.out _ Hwt4.out Hl4.out).mono ?_)
    rintro e' w5 ⟨rfl, hwt5, hr5⟩
    have Hd := Lib.hid (put_d .returning g w3.heap.size 1 _ _ [⟨#[41]⟩] w5 hwt5 (hr5.2.2 _ _ _ (by decide) (by decide) Hk4.out) rfl (by decide) (by
      have := Hlen.out
      simp only [List.length_append, List.length_cons, List.length_nil] at this
      simp only [catL, List.map_cons, List.map_nil, List.flatten_cons, List.flatten_nil, List.length_append, List.length_cons, List.length_nil]
      omega))
    have Hr5 := Lib.hid (Hb1.out.trans (Hr4.out.trans hr5))
    clear hwt5 hr5
    go_wp2
    refine leaves_cons (f := 30) (args := #[.pointer (some ⟨g, 0, none⟩), .slice (some ⟨w3.heap.size, 0, none⟩) 1 1]) (by simp) (by simp [go_sem]) ?_
    refine Hd.out.mono ?_
    rintro e' u' w6 ⟨rfl, rfl, hwt6, hr6⟩
    refine ⟨_, results_none rfl _ _ _, rfl, ?_, Hr5.out.trans hr6⟩
    have e6 : t ++ [40] ++ txtE d e ++ catL [⟨#[41]⟩] = t ++ ([40] ++ txtE d e ++ [41]) := by simp [catL]
    rw [e6] at hwt6
    exact hwt6
  · have hop : opnd least e.op (txtE d e) = txtE d e := by unfold opnd; rw [if_neg hc]
    rw [hop] at Hlen ⊢
    have hdc : decide (lvlZ e.op < least) = false := by simp [hc]
    go_enter_defers Tryd.func36, Tryd.ntmps36
    go_upto_region 1 with (fail)
    rw [← Hw1.out]
    obtain ⟨x0, x1, x2, x3, x4, x5, xl⟩ := box6 (Hx.out _ (Wrote.refl _ _))
    go_wp2_with (go_at_call 29; refine (Hsg.out _).mono ?_; rintro e' w2 ⟨rfl, hb2⟩; obtain ⟨y0, y1, y2, y3, y4, y5, yl⟩ := box6 (Hx.out _ (Wrote.of_below (Nat.le_of_lt hwt1.lt) hb2)))
    have Hr2 := Lib.hid (Wrote.of_below (Nat.le_of_lt hwt1.lt) hb2)
    refine (Hee.out _ Hr2.out _ (hwt1.below hb2) Hlen.out).mono ?_
    rintro e' w5 ⟨rfl, hwt5, hr5⟩
    have H5 := Lib.hid (And.intro hwt5 (Hb1.out.trans (Hr2.out.trans hr5)))
    clear hwt5 hr5 x0 x1 x2 x3 x4 x5 y0 y1 y2 y3 y4 y5
    go_wp2
    exact ⟨_, results_none rfl _ _ _, rfl, H5.out.1, H5.out.2⟩

theorem rows_len {a b c : Nat} (h : a + b ≤ 1000000000) (hb : c ≤ b) : a + c ≤ 1000000000 := by omega
set_option maxHeartbeats 1000000 in
theorem rows_in (F : Nat → Prop) (d : Nat) (hE : ExprC F d) (e : Ex) (row : List Value) (name src : ByteArray) (g : Nat) (t : List UInt8) (br : Bool) (w : World) (hx : ExAt F d w row e) (hb : builtE d e = true) (hF : ∀ k, F k → k < g) (h : WtAt g t br w) (hm : HasMax w) (hg : 0 < g) (hlen : t.length + (rowsT name src e.op e.n (txtE d e)).length ≤ 1000000000) :
    Calls Tryd.prog 37 #[.pointer (some ⟨g, 0, none⟩), .string name, .string src, .agg row.toArray] w fun e' w' => e' = .returned (.tuple #[]) ∧ WtAt g (t ++ rowsT name src e.op e.n (txtE d e)) (br || nlE d e) w' ∧ Wrote g w w' := by
  obtain ⟨A, m, c, hrow⟩ := ex_row hx
  have Hlow := Lib.hid (h.lt)
  obtain ⟨w1, Hw1⟩ : ∃ w1, Hid (w1 = w.alloc (.cells row.toArray 35)) := ⟨_, rfl⟩
  have hb1 : Wrote g w w1 := by rw [Hw1.out]; exact Wrote.of_below (Nat.le_of_lt h.lt) ((Below.refl _ _).alloc (Nat.le_refl _) _)
  have hk1 : IsBlk w1 w.heap.size 35 row.toArray := by rw [Hw1.out]; exact IsBlk.laid _ _ _
  have hwt1 : WtAt g t br w1 := by rw [Hw1.out]; exact h.below ((Below.refl _ _).alloc (Nat.le_refl _) _)
  have Hx := Lib.hid (fun W (hW : Wrote g w1 W) => (show IsBlk W w.heap.size 35 row.toArray from hW.2.2 _ _ _ (by decide) (by decide) hk1))
  have Hee := Lib.hid (fun W (hW : Wrote g w1 W) t' (hwt : WtAt g t' br W) (hl : t'.length + (txtE d e).length ≤ 1000000000) => hE e row g t' br W (ExAt.wrote hx hF (hb1.trans hW)) hb hF hwt (hm.below hg (hb1.trans hW).1) hg hl)
  have Hsm := Lib.hid (fun W (hW : Wrote g w1 W) => same_any F d e row W (ExAt.wrote hx hF (hb1.trans hW)) hb)
  have Hwh := Lib.hid (show e.op = 3 ∧ e.n = 1 → nlE d e = false from fun ⟨h3, _⟩ => by
    cases d with
    | zero => rfl
    | succ d =>
      obtain ⟨ha, _, _⟩ := built_parts hb
      rw [h3] at ha
      have e1 : e.args = [] := List.eq_nil_of_length_eq_zero (by have : arityB 3 = 0 := rfl; omega)
      rw [nlE, h3, e1]
      rfl)
  subst hrow
  have Hb1 := Lib.hid hb1
  unfold rowsT at hlen ⊢
  have Hlen := Lib.hid hlen
  clear hE hx hm hF hb h hk1 hlen
  go_enter Tryd.func37, Tryd.ntmps37
  go_upto_region 1 with (fail)
  rw [← Hw1.out]
  obtain ⟨x0, x1, x2, x3, x4, x5, xl⟩ := box6 (Hx.out _ (Wrote.refl _ _))
  go_wp2_with (fail)
  refine (put_new g 3 t br [name, ⟨#[32, 105, 110, 32]⟩, src] _ hwt1 rfl (by decide) (by
    have := Hlen.out
    simp only [List.length_append, List.length_cons, List.length_nil] at this
    simp only [catL, List.map_cons, List.map_nil, List.flatten_cons, List.flatten_nil, List.length_append, List.length_cons, List.length_nil]
    omega)).mono ?_
  rintro e' w3 ⟨rfl, hwt3, hr3⟩
  have e3 : t ++ catL [name, ⟨#[32, 105, 110, 32]⟩, src] = t ++ (name.data.toList ++ [32, 105, 110, 32] ++ src.data.toList) := by simp [catL]
  rw [e3] at hwt3
  have Hr3 := Lib.hid hr3
  obtain ⟨y0, y1, y2, y3, y4, y5, yl⟩ := box6 (Hx.out _ hr3)
  clear x0 x1 x2 x3 x4 x5 hr3 hwt1 hb1
  go_wp2_with (go_at_call 52; refine (Hsm.out _ Hr3.out).mono ?_)
  rintro e' w4 ⟨rfl, hb4⟩
  have hr4 := Hr3.out.trans (Wrote.of_below (Nat.le_of_lt hwt3.lt) hb4)
  have hwt4 := hwt3.below hb4
  have Hr4 := Lib.hid hr4
  obtain ⟨z0, z1, z2, z3, z4, z5, zl⟩ := box6 (Hx.out _ hr4)
  clear y0 y1 y2 y3 y4 y5 hr4 hwt3 hb4
  rcases Classical.em (e.op = 3 ∧ e.n = 1) with hc | hc
  · have hd := decide_eq_true hc
    rw [hd]
    have hwe : whereT e.op e.n (txtE d e) = [] := by unfold whereT; rw [if_pos hc]
    have hne := Hwh.out hc
    have H4 := Lib.hid (And.intro hwt4 Hr4.out)
    have Hwe := Lib.hid (And.intro hwe hne)
    clear hwt4 hd hwe hne
    go_wp2
    go_end0
    rw [Hwe.out.1, Hwe.out.2, List.append_nil, Bool.or_false]
    exact ⟨rfl, H4.out.1, Hb1.out.trans H4.out.2⟩
  · have hd := decide_eq_false hc
    rw [hd]
    have hwe : whereT e.op e.n (txtE d e) = [32, 119, 104, 101, 114, 101, 32] ++ txtE d e := by unfold whereT; rw [if_neg hc]
    rw [hwe] at Hlen
    have Hwe := Lib.hid hwe
    clear hd hc hwe
    go_wp2_with (fail)
    refine (put_new g 1 _ br [⟨#[32, 119, 104, 101, 114, 101, 32]⟩] _ hwt4 rfl (by decide) (by
      have := Hlen.out
      simp only [List.length_append, List.length_cons, List.length_nil] at this
      simp only [catL, List.map_cons, List.map_nil, List.flatten_cons, List.flatten_nil, List.length_append, List.length_cons, List.length_nil]
      omega)).mono ?_
    rintro e' w5 ⟨rfl, hwt5, hr5⟩
    have hr5' := Hr4.out.trans hr5
    have Hr5 := Lib.hid hr5'
    obtain ⟨x0, x1, x2, x3, x4, x5, xl⟩ := box6 (Hx.out _ hr5')
    clear z0 z1 z2 z3 z4 z5 hr5 hr5' hwt4
    go_wp2_with (fail)
    refine (Hee.out _ Hr5.out _ hwt5 (by
      have := Hlen.out
      simp only [List.length_append, List.length_cons, List.length_nil] at this
      simp only [catL, List.map_cons, List.map_nil, List.flatten_cons, List.flatten_nil, List.length_append, List.length_cons, List.length_nil]
      omega)).mono ?_
    rintro e' w6 ⟨rfl, hwt6, hr6⟩
    have e6 : t ++ (name.data.toList ++ [32, 105, 110, 32] ++ src.data.toList) ++ catL [⟨#[32, 119, 104, 101, 114, 101, 32]⟩] ++ txtE d e = t ++ (name.data.toList ++ [32, 105, 110, 32] ++ src.data.toList ++ ([32, 119, 104, 101, 114, 101, 32] ++ txtE d e)) := by simp [catL]
    rw [e6] at hwt6
    have H6 := Lib.hid (And.intro hwt6 (Hr5.out.trans hr6))
    clear hwt6 hr6 hwt5
    go_wp2
    go_end0
    rw [Hwe.out]
    exact ⟨rfl, H6.out.1, Hb1.out.trans H6.out.2⟩
end Go.Proofs.YthiimingnmbgmaaDoor
