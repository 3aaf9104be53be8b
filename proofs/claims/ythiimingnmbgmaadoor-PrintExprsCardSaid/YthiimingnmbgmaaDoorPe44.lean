/- Parts of this proof, one behind the other: PrtA1. -/
import Derived.Test.YthiimingnmbgmaaDoorPe38
import Derived.Test.YthiimingnmbgmaaDoorPe36
namespace Go.Proofs.YthiimingnmbgmaaDoor
open Go.RowKit Go.Afx

abbrev sNil : ByteArray := ⟨#[]⟩
abbrev vars (nm : ByteArray) : Ex := .mk 4 0 sNil nm sNil []
abbrev opx (op : Int) (l : List Ex) : Ex := .mk op 0 sNil sNil sNil l
abbrev varRow (nm : ByteArray) : List Value := [.int .i64 4, .int .i64 0, .string sNil, .string nm, .string sNil, .slice none 0 0]
abbrev opRow (op : Int) (A : Option Addr) (n : Nat) : List Value := [.int .i64 op, .int .i64 0, .string sNil, .string sNil, .string sNil, .slice A n n]
abbrev ex1 : Ex := opx 19 [opx 11 [vars ⟨#[120]⟩, vars ⟨#[121]⟩]]
abbrev ex2 : Ex := opx 11 [opx 19 [vars ⟨#[120]⟩], vars ⟨#[121]⟩]
theorem ex1_said : exprS 3 ex1 = ([110, 111, 116, 32, 120, 32, 61, 32, 121], 0) := by decide +kernel
theorem ex2_said : exprS 3 ex2 = ([40, 110, 111, 116, 32, 120, 41, 32, 61, 32, 121], 0) := by decide +kernel
theorem ex1_len : (txtE 3 ex1).length ≤ 1000000000 := by decide +kernel
theorem ex2_len : (txtE 3 ex2).length ≤ 1000000000 := by decide +kernel
theorem exs_of {F : Nat → Prop} {d n c : Nat} {W : World} {A : Option Addr} {rows : List (List Value)} {es : List Ex} (hr : RowsAt W 6 A n c rows) (hF : ∀ a, A = some a → 0 < n → F a.block) (hl : rows.length = es.length) (h : ∀ (k : Nat) (r : List Value) (x : Ex), rows[k]? = some r → es[k]? = some x → ExAt F d W r x) : ExsAt F d W A n c es :=
  ⟨rows, hr, hF, hl, fun k r x h1 h2 => ⟨(h k r x h1 h2).len, h k r x h1 h2⟩⟩
theorem okS_nil : okS sNil := by unfold okS; decide +kernel
theorem ex_var {F : Nat → Prop} {d : Nat} {W : World} {nm : ByteArray} (h : okS nm) : ExAt F (d + 1) W (varRow nm) (vars nm) :=
  ⟨(by unfold okI; decide : okI 4), (by unfold okI; decide : okI 0), okS_nil, h, okS_nil, none, 0, 0, rfl, LsAt.nil_ _ _ _ _⟩
theorem ex_opx {F : Nat → Prop} {d : Nat} {W : World} {op : Int} {A : Option Addr} {n : Nat} {es : List Ex} (h0 : 0 ≤ op) (h1 : op ≤ 100) (h : ExsAt F d W A n n es) : ExAt F (d + 1) W (opRow op A n) (opx op es) :=
  ⟨by unfold okI; have : (opx op es).op = op := rfl
      omega, (by unfold okI; decide : okI 0), okS_nil, okS_nil, okS_nil, A, n, n, rfl, h⟩
theorem exs_one {F : Nat → Prop} {d : Nat} {w : World} {g : Nat} (T : TypeId) {r : List Value} {e : Ex} (hg : g = w.heap.size) (hF : F g) (h : ExAt F d (w.alloc (.cells r.toArray T)) r e) : ExsAt F d (w.alloc (.cells r.toArray T)) (some ⟨g, 0, none⟩) 1 1 [e] := by
  have h6 := h.len
  refine exs_of (rows := [r]) (RowsAt.lit' _ _ 1 hg (by simp) (by simpa using h6) (by simp) (by unfold maxLen; omega)) (fun a ha _ => by cases ha; exact hF) rfl (fun k r x h1 h2 => ?_)
  cases k with
  | zero => simp at h1 h2; subst h1 h2; exact h
  | succ k => simp at h1
theorem exs_two {F : Nat → Prop} {d : Nat} {w : World} {g : Nat} (T : TypeId) {r r2 : List Value} {e e2 : Ex} (hg : g = w.heap.size) (hF : F g) (h : ExAt F d (w.alloc (.cells (r ++ r2).toArray T)) r e) (h2 : ExAt F d (w.alloc (.cells (r ++ r2).toArray T)) r2 e2) : ExsAt F d (w.alloc (.cells (r ++ r2).toArray T)) (some ⟨g, 0, none⟩) 2 2 [e, e2] := by
  have h6 := h.len
  have h62 := h2.len
  refine exs_of (rows := [r, r2]) (RowsAt.lit' _ _ 2 hg (by simp) (by simp [h6, h62]) (by simp) (by unfold maxLen; omega)) (fun a ha _ => by cases ha; exact hF) rfl (fun k q x q1 q2 => ?_)
  rcases k with _ | _ | k
  · simp at q1 q2; subst q1 q2; exact h
  · simp at q1 q2; subst q1 q2; exact h2
  · simp at q1
theorem laid_lt (w : World) (o : Obj) : Below w.heap.size w (w.alloc o) := (Below.refl _ _).alloc (Nat.le_refl _) _
theorem say1 (w : World) (hm : HasMax w) (hg : 0 < w.heap.size) (g1 g2 : Nat) (h1 : g1 = w.heap.size) (h2 : g2 = w.heap.size + 1) : Calls Tryd.prog 7 #[.agg #[.int .i64 19, .int .i64 0, .string ⟨#[]⟩, .string ⟨#[]⟩, .string ⟨#[]⟩, .slice (some ⟨g2, 0, none⟩) 1 1]] ((w.alloc (.cells #[.int .i64 4, .int .i64 0, .string ⟨#[]⟩, .string ⟨#[120]⟩, .string ⟨#[]⟩, .slice none 0 0, .int .i64 4, .int .i64 0, .string ⟨#[]⟩, .string ⟨#[121]⟩, .string ⟨#[]⟩, .slice none 0 0] 35)).alloc (.cells #[.int .i64 11, .int .i64 0, .string ⟨#[]⟩, .string ⟨#[]⟩, .string ⟨#[]⟩, .slice (some ⟨g1, 0, none⟩) 2 2] 35)) fun x w' => x = .returned (.tuple #[.string ⟨#[110, 111, 116, 32, 120, 32, 61, 32, 121]⟩, .int .i64 0]) ∧ Below w.heap.size w w' := by
  have ha : ExsAt (fun k => k < w.heap.size + 2) 1 (w.alloc (.cells (varRow ⟨#[120]⟩ ++ varRow ⟨#[121]⟩).toArray 35)) (some ⟨g1, 0, none⟩) 2 2 [vars ⟨#[120]⟩, vars ⟨#[121]⟩] := exs_two _ h1 (by omega) (ex_var (by unfold okS; decide +kernel)) (ex_var (by unfold okS; decide +kernel))
  have hb := exs_one (F := fun k => k < w.heap.size + 2) (d := 2) (w := w.alloc (.cells (varRow ⟨#[120]⟩ ++ varRow ⟨#[121]⟩).toArray 35)) (g := g2) 35 (r := opRow 11 (some ⟨g1, 0, none⟩) 2) (e := opx 11 [vars ⟨#[120]⟩, vars ⟨#[121]⟩]) (by simp [h2]) (by omega) (ex_opx (by decide) (by decide) (ha.below (laid_lt _ _)))
  have hx := ex_opx (op := 19) (by decide) (by decide) hb
  have hlow := (laid_lt w (.cells (varRow ⟨#[120]⟩ ++ varRow ⟨#[121]⟩).toArray 35)).alloc (by simp) (.cells (opRow 11 (some ⟨g1, 0, none⟩) 2).toArray 35)
  have h := printExpr_any (fun k => k < w.heap.size + 2) 3 ex1 _ _ hx (by decide) (fun k hk => by simp; omega) (hm.below hg hlow) (fun _ => ex1_len)
  rw [ex1_said] at h
  refine h.mono ?_
  rintro x w' ⟨rfl, hw⟩
  exact ⟨rfl, hlow.trans (hw.mono hlow.size)⟩
theorem say2 (w : World) (hm : HasMax w) (hg : 0 < w.heap.size) (g1 g2 : Nat) (h1 : g1 = w.heap.size) (h2 : g2 = w.heap.size + 1) : Calls Tryd.prog 7 #[.agg #[.int .i64 11, .int .i64 0, .string ⟨#[]⟩, .string ⟨#[]⟩, .string ⟨#[]⟩, .slice (some ⟨g2, 0, none⟩) 2 2]] ((w.alloc (.cells #[.int .i64 4, .int .i64 0, .string ⟨#[]⟩, .string ⟨#[120]⟩, .string ⟨#[]⟩, .slice none 0 0] 35)).alloc (.cells #[.int .i64 19, .int .i64 0, .string ⟨#[]⟩, .string ⟨#[]⟩, .string ⟨#[]⟩, .slice (some ⟨g1, 0, none⟩) 1 1, .int .i64 4, .int .i64 0, .string ⟨#[]⟩, .string ⟨#[121]⟩, .string ⟨#[]⟩, .slice none 0 0] 35)) fun x w' => x = .returned (.tuple #[.string ⟨#[40, 110, 111, 116, 32, 120, 41, 32, 61, 32, 121]⟩, .int .i64 0]) ∧ Below w.heap.size w w' := by
  have ha : ExsAt (fun k => k < w.heap.size + 2) 1 (w.alloc (.cells (varRow ⟨#[120]⟩).toArray 35)) (some ⟨g1, 0, none⟩) 1 1 [vars ⟨#[120]⟩] := exs_one _ h1 (by omega) (ex_var (by unfold okS; decide +kernel))
  have hb := exs_two (F := fun k => k < w.heap.size + 2) (d := 2) (w := w.alloc (.cells (varRow ⟨#[120]⟩).toArray 35)) (g := g2) 35 (r := opRow 19 (some ⟨g1, 0, none⟩) 1) (e := opx 19 [vars ⟨#[120]⟩]) (r2 := varRow ⟨#[121]⟩) (e2 := vars ⟨#[121]⟩) (by simp [h2]) (by omega) (ex_opx (by decide) (by decide) (ha.below (laid_lt _ _))) (ex_var (by unfold okS; decide +kernel))
  have hx := ex_opx (op := 11) (by decide) (by decide) hb
  have hlow := (laid_lt w (.cells (varRow ⟨#[120]⟩).toArray 35)).alloc (by simp) (.cells (opRow 19 (some ⟨g1, 0, none⟩) 1 ++ varRow ⟨#[121]⟩).toArray 35)
  have h := printExpr_any (fun k => k < w.heap.size + 2) 3 ex2 _ _ hx (by decide) (fun k hk => by simp; omega) (hm.below hg hlow) (fun _ => ex2_len)
  rw [ex2_said] at h
  refine h.mono ?_
  rintro x w' ⟨rfl, hw⟩
  exact ⟨rfl, hlow.trans (hw.mono hlow.size)⟩
set_option maxRecDepth 100000 in
set_option maxHeartbeats 2000000 in
theorem awakeP_any (w : World) (hm : HasMax w) : Calls Tryd.prog 5 #[] w fun x w' => x = .returned (.bool true) ∧ Below w.heap.size w w' := by
  obtain ⟨w2, Hw2⟩ : ∃ w2, Hid (w2 = ((w.alloc (.cells #[.int .i64 4, .int .i64 0, .string ⟨#[]⟩, .string ⟨#[120]⟩, .string ⟨#[]⟩, .slice none 0 0] 35)).alloc (.cells #[.int .i64 4, .int .i64 0, .string ⟨#[]⟩, .string ⟨#[121]⟩, .string ⟨#[]⟩, .slice none 0 0] 35))) := ⟨_, rfl⟩
  have hb2 : Below w.heap.size w w2 := by rw [Hw2.out]; exact (laid_lt _ _).alloc (by simp) _
  have hx2 : IsBlk w2 w.heap.size 35 #[.int .i64 4, .int .i64 0, .string ⟨#[]⟩, .string ⟨#[120]⟩, .string ⟨#[]⟩, .slice none 0 0] := by rw [Hw2.out]; exact (IsBlk.laid _ _ _).as_was ((laid_lt _ _).block _ (by simp))
  have hy2 : IsBlk w2 (w.heap.size + 1) 35 #[.int .i64 4, .int .i64 0, .string ⟨#[]⟩, .string ⟨#[121]⟩, .string ⟨#[]⟩, .slice none 0 0] := by rw [Hw2.out]; exact laid_at (by simp) _ _
  have Hx := Lib.hid (fun W (hW : Below w2.heap.size w2 W) => box6 (hx2.as_was (hW.block _ hx2.lt)))
  have Hy := Lib.hid (fun W (hW : Below w2.heap.size w2 W) => box6 (hy2.as_was (hW.block _ hy2.lt)))
  have hmg := Nat.lt_of_lt_of_le hm.lt hb2.size
  have H1 := Lib.hid (say1 w2 (hm.below hm.lt hb2) hmg w2.heap.size (w2.heap.size + 1) rfl rfl)
  have H2 := Lib.hid (fun W (hW : Below w2.heap.size w2 W) => say2 W ((hm.below hm.lt hb2).below hmg hW) (Nat.lt_of_lt_of_le hmg hW.size) W.heap.size (W.heap.size + 1) rfl rfl)
  obtain ⟨x0, x1, x2, x3, x4, x5, xl⟩ := Hx.out _ (Below.refl _ _)
  obtain ⟨y0, y1, y2, y3, y4, y5, yl⟩ := Hy.out _ (Below.refl _ _)
  have Hb2 := Lib.hid hb2
  clear hb2 hx2 hy2 hmg hm
  go_enter Tryd.func5, Tryd.ntmps5
  go_upto_region 3 with (fail)
  rw [← Hw2.out]
  go_wp2_with (go_at_call 7; refine H1.out.mono ?_)
  rintro x w3 ⟨rfl, hb3⟩
  obtain ⟨u0, u1, u2, u3, u4, u5, ul⟩ := Hx.out _ hb3
  obtain ⟨v0, v1, v2, v3, v4, v5, vl⟩ := Hy.out _ hb3
  have H3 := Lib.hid (H2.out _ hb3)
  have Hb3 := Lib.hid hb3
  clear hb3 x0 x1 x2 x3 x4 x5 xl y0 y1 y2 y3 y4 y5 yl
  go_wp2_with (go_at_call 7; refine H3.out.mono ?_)
  rintro x w4 ⟨rfl, hb4⟩
  have Hb4 := Lib.hid (Hb2.out.trans ((Hb3.out.trans (hb4.mono Hb3.out.size)).mono Hb2.out.size))
  clear hb4
  go_wp2
  go_ret
  exact ⟨ret_b (by simp), Hb4.out⟩
end Go.Proofs.YthiimingnmbgmaaDoor
