/- Parts of this proof, one behind the other: ParN0. -/
import Derived.Test.YtlakeanldbdedaaGreatPr20
namespace Go.Proofs.YtlakeanldbdedaaGreat
open Go.RowKit Go.Afx

/-- 'block gl holds a slice of its own (behind n0) of these expressions' -/
structure ExsOwn (n0 gl : Nat) (w : World) (A : Option Addr) (c : Nat) (rows : List (List Value)) (D : Nat) (xs : List Ex) : Prop where
  blk : IsBlk w gl 39 #[.slice A xs.length c]
  own : w.ownsRow n0 41 6 (.slice A xs.length c) xs.length rows.flatten
  len : rows.length = xs.length
  at_ : ∀ (k : Nat) (r : List Value) (x : Ex), rows[k]? = some r → xs[k]? = some x → r.length = 6 ∧ ExAt (fun b => n0 ≤ b ∧ A.map (·.block) ≠ some b) D w r x
theorem ExsOwn.low {n0 gl : Nat} {w : World} {A : Option Addr} {c : Nat} {rows : List (List Value)} {D : Nat} {xs : List Ex} (h : ExsOwn n0 gl w A c rows D xs) : ∀ a, A = some a → n0 ≤ a.block ∧ a.block < w.heap.size := by
  intro a ha; subst ha; exact h.own.lt a.block rfl
theorem ExsOwn.wid {n0 gl : Nat} {w : World} {A : Option Addr} {c : Nat} {rows : List (List Value)} {D : Nat} {xs : List Ex} (h : ExsOwn n0 gl w A c rows D xs) : ∀ r ∈ rows, r.length = 6 := by
  intro r hr
  obtain ⟨k, hk, rfl⟩ := List.mem_iff_getElem.1 hr
  exact (h.at_ k _ _ (List.getElem?_eq_getElem hk) (List.getElem?_eq_getElem (by have := h.len; omega))).1
/-- what is neither its box nor its row turns -/
theorem ExsOwn.keep {n0 gl : Nat} {w w' : World} {A : Option Addr} {c : Nat} {rows : List (List Value)} {D : Nat} {xs : List Ex} {S : Nat → Prop} (h : ExsOwn n0 gl w A c rows D xs) (hb : But S w w') (hS : ∀ k, S k → k ≠ gl ∧ k < n0) : ExsOwn n0 gl w' A c rows D xs :=
  ⟨h.blk.as_was (hb.block _ h.blk.lt fun hs => (hS _ hs).1 rfl), own_but h.own hb (fun g hg hs => by have := (h.own.lt g hg).1; have := (hS g hs).2; omega), h.len,
    fun k r x hr hx => ⟨(h.at_ k r x hr hx).1, (h.at_ k r x hr hx).2.kept (Kept.of_but hb fun b hb hs => by have := (hS b hs).2; have := hb.1; omega)⟩⟩
theorem ExsOwn.nil_ {n0 gl : Nat} {w : World} (hk : IsBlk w gl 39 #[.slice none 0 0]) : ExsOwn n0 gl w none 0 [] 0 [] := ⟨hk, World.ownsRow_nil _ _ _ _, rfl, fun k r x h => by simp at h⟩
/-- it is a list -/
theorem ExsOwn.list {n0 gl : Nat} {w : World} {A : Option Addr} {c : Nat} {rows : List (List Value)} {D : Nat} {xs : List Ex} (h : ExsOwn n0 gl w A c rows D xs) : ExsAt (fun b => n0 ≤ b) D w A xs.length c xs :=
  ⟨rows, RowsAt.of_own h.own h.wid h.len, fun a ha _ => (h.low a ha).1, h.len, fun k r x hr hx => ⟨(h.at_ k r x hr hx).1, ExAt.conv (fun _ h => h.1) (Kept.refl _ _) D (Nat.le_refl _) (h.at_ k r x hr hx).2⟩⟩
/-- six cells in the midst of a block -/
def lay6At (w : World) (g o : Nat) (v0 v1 v2 v3 v4 v5 : Value) : World := (((((w.setCell ⟨g, o, none⟩ v0).setCell ⟨g, o + 1, none⟩ v1).setCell ⟨g, o + 2, none⟩ v2).setCell ⟨g, o + 3, none⟩ v3).setCell ⟨g, o + 4, none⟩ v4).setCell ⟨g, o + 5, none⟩ v5
theorem lay6At_eq (w : World) (g o : Nat) (v0 v1 v2 v3 v4 v5 : Value) : (((((w.setCell ⟨g, o, none⟩ v0).setCell ⟨g, o + 1, none⟩ v1).setCell ⟨g, o + 2, none⟩ v2).setCell ⟨g, o + 3, none⟩ v3).setCell ⟨g, o + 4, none⟩ v4).setCell ⟨g, o + 5, none⟩ v5 = lay6At w g o v0 v1 v2 v3 v4 v5 := rfl
theorem lay6At_but (w : World) (g o : Nat) (v0 v1 v2 v3 v4 v5 : Value) : But (fun k => k = g) w (lay6At w g o v0 v1 v2 v3 v4 v5) := by
  have h := But.refl (fun k => k = g) w
  have h := h.setCell (p := ⟨g, o, none⟩) (.inl rfl) v0
  have h := h.setCell (p := ⟨g, o + 1, none⟩) (.inl rfl) v1
  have h := h.setCell (p := ⟨g, o + 2, none⟩) (.inl rfl) v2
  have h := h.setCell (p := ⟨g, o + 3, none⟩) (.inl rfl) v3
  have h := h.setCell (p := ⟨g, o + 4, none⟩) (.inl rfl) v4
  exact h.setCell (p := ⟨g, o + 5, none⟩) (.inl rfl) v5
theorem set_last {α : Type} (l : List α) (a0 a1 a2 a3 a4 a5 v0 v1 v2 v3 v4 v5 : α) (o : Nat) (h : l.length = o) : (((((((l ++ [a0, a1, a2, a3, a4, a5]).set o v0).set (o + 1) v1).set (o + 2) v2).set (o + 3) v3).set (o + 4) v4).set (o + 5) v5) = l ++ [v0, v1, v2, v3, v4, v5] := by
  subst h
  simp
/-- the last element of a row of the call's own is laid anew -/
theorem own_last {w : World} {base : Nat} {T : TypeId} {g n c : Nat} {rows : List (List Value)} {a0 a1 a2 a3 a4 a5 : Value} (v0 v1 v2 v3 v4 v5 : Value) (h : w.ownsRow base T 6 (.slice (some ⟨g, 0, none⟩) (n + 1) c) (n + 1) (rows ++ [[a0, a1, a2, a3, a4, a5]]).flatten) (hw : ∀ r ∈ rows, r.length = 6) (hl : rows.length = n) :
    (lay6At w g (n * 6) v0 v1 v2 v3 v4 v5).ownsRow base T 6 (.slice (some ⟨g, 0, none⟩) (n + 1) c) (n + 1) (rows ++ [[v0, v1, v2, v3, v4, v5]]).flatten := by
  have hlen : rows.flatten.length = n * 6 := by rw [flatten_length rows 6 hw, hl]
  have e1 : (rows ++ [[a0, a1, a2, a3, a4, a5]]).flatten = rows.flatten ++ [a0, a1, a2, a3, a4, a5] := by simp
  have e2 : (rows ++ [[v0, v1, v2, v3, v4, v5]]).flatten = rows.flatten ++ [v0, v1, v2, v3, v4, v5] := by simp
  rw [e1] at h
  rw [e2, ← set_last rows.flatten a0 a1 a2 a3 a4 a5 v0 v1 v2 v3 v4 v5 (n * 6) hlen]
  exact ((((((h.stored (n * 6) v0).1.stored (n * 6 + 1) v1).1.stored (n * 6 + 2) v2).1.stored (n * 6 + 3) v3).1.stored (n * 6 + 4) v4).1.stored (n * 6 + 5) v5).1
/-- the last element's cells -/
theorem own_tail {w : World} {base : Nat} {T : TypeId} {A : Option Addr} {n c : Nat} {rows : List (List Value)} {a0 a1 a2 a3 a4 a5 : Value} (h : w.ownsRow base T 6 (.slice A (n + 1) c) (n + 1) (rows ++ [[a0, a1, a2, a3, a4, a5]]).flatten) (hw : ∀ r ∈ rows, r.length = 6) (hl : rows.length = n) :
    ∃ g, A = some ⟨g, 0, none⟩ ∧ base ≤ g ∧ g < w.heap.size ∧ n + 1 ≤ c ∧ (∀ i, w.frozen? ⟨g, i, none⟩ = false) ∧ w.cell? ⟨g, n * 6, none⟩ = some a0 ∧ w.cell? ⟨g, n * 6 + 1, none⟩ = some a1 ∧ w.cell? ⟨g, n * 6 + 2, none⟩ = some a2 ∧ w.cell? ⟨g, n * 6 + 3, none⟩ = some a3 ∧ w.cell? ⟨g, n * 6 + 4, none⟩ = some a4 ∧ w.cell? ⟨g, n * 6 + 5, none⟩ = some a5 := by
  obtain ⟨A', c', e1, hnc⟩ := ownsRow_form h
  obtain ⟨g, cap, hv, hb, hg⟩ := h.form (by omega)
  simp only [Value.slice.injEq] at hv e1
  obtain ⟨rfl, _, rfl⟩ := hv
  obtain ⟨_, _, rfl⟩ := e1
  have hwid : ∀ r ∈ rows ++ [[a0, a1, a2, a3, a4, a5]], r.length = 6 := by
    intro r hr
    rcases List.mem_append.1 hr with hr | hr
    · exact hw r hr
    · simp only [List.mem_singleton] at hr; subst hr; rfl
  have hat : ∀ i, i < 6 → w.cell? ⟨g, n * 6 + i, none⟩ = [a0, a1, a2, a3, a4, a5][i]? := fun i hi => by
    rw [h.cellAt (n * 6 + i) (by omega), flatten_get _ 6 hwid n i hi, List.getElem?_append_right (by omega), hl]
    simp
  exact ⟨g, rfl, hb, hg, hnc, h.frozenAt, by simpa using hat 0 (by omega), hat 1 (by omega), hat 2 (by omega), hat 3 (by omega), hat 4 (by omega), hat 5 (by omega)⟩
theorem PAt.off {gp gc gw : Nat} {W : Wds} {s : PSt} {w w' : World} {S : Nat → Prop} (h : PAt gp gc gw W s w) (hb : But S w w') (hS : ∀ k, S k → gp ≠ k ∧ gc ≠ k ∧ gw ≠ k) : PAt gp gc gw W s w' := by
  obtain ⟨⟨A, n, c, hk2, hl⟩, h1, h2, h3, h4⟩ := h.cu
  exact ⟨h.blk.as_was (hb.block _ h.blk.lt fun hs => (hS _ hs).1 rfl), ⟨⟨A, n, c, hk2.as_was (hb.block _ hk2.lt fun hs => (hS _ hs).2.1 rfl), hl.kept (Kept.of_but hb fun k hf hs => (hS k hs).2.2 hf.symm)⟩, h1, h2, h3, h4⟩, h.ne, h.nw, Nat.lt_of_lt_of_le h.wl hb.size⟩
abbrev zrow : List Value := [.int .i64 0, .int .i64 0, .string ⟨#[]⟩, .string ⟨#[]⟩, .string ⟨#[]⟩, .slice none 0 0]
/-- behind an append of a zero and an expression taken, whichever came first -/
structure Grown (gp gc gw n0 : Nat) (W : Wds) (s' : PSt) (w : World) (xs : List Ex) (x : Ex) (rows : List (List Value)) (row : List Value) (D : Nat) (A6 : Option Addr) (c6 : Nat) (W6 : World) : Prop where
  p : PAt gp gc gw W s' W6
  own : W6.ownsRow n0 41 6 (.slice A6 (xs.length + 1) c6) (xs.length + 1) (rows ++ [zrow]).flatten
  old : ∀ (k : Nat) (r : List Value) (y : Ex), rows[k]? = some r → xs[k]? = some y → r.length = 6 ∧ ExAt (fun b => n0 ≤ b ∧ A6.map (·.block) ≠ some b) D W6 r y
  new_ : ExAt (fun b => n0 ≤ b ∧ A6.map (·.block) ≠ some b) D W6 row x
  but : But (fun k => k = gp ∨ k = gc ∨ n0 ≤ k) w W6
/-- the frame of one who grows a list -/
def On3 (gp gc gl n0 : Nat) : Nat → Prop := fun k => k = gp ∨ k = gc ∨ k = gl ∨ n0 ≤ k
section
variable {gp gc gw gl n0 : Nat} {W : Wds} {s s' : PSt} {w Wc w5 w6 : World} {A : Option Addr} {c D D5 : Nat} {rows : List (List Value)} {xs : List Ex} {x : Ex} {row : List Value}
/-- what is there ahead of it -/
theorem ExsOwn.on2 (h : ExsOwn n0 gl w A c rows D xs) (hb : But (On2 gp gc) w w5) (hg : gp < n0 ∧ gc < n0 ∧ gl ≠ gp ∧ gl ≠ gc) : ExsOwn n0 gl w5 A c rows D xs :=
  h.keep hb fun k hk => by rcases hk with e | e <;> subst e <;> exact ⟨fun e => by omega, by omega⟩
/-- taken first, then appended -/
theorem Grown.late (h : ExsOwn n0 gl w A c rows D xs) (hg : gp < n0 ∧ gc < n0 ∧ gw < n0 ∧ gl ≠ gp ∧ gl ≠ gc) (hn : n0 ≤ w.heap.size) (hB : But (On2 gp gc) w w5) (hx : ExAt (Fr w) D5 w5 row x) (hP : PAt gp gc gw W s' w5)
    (hal : Below w5.heap.size w5 Wc) {A6 : Option Addr} {c6 : Nat} (hown : w6.ownsRow n0 41 6 (.slice A6 (xs.length + 1) c6) (xs.length + 1) (rows ++ [zrow]).flatten)
    (hbut : But (fun k => A.map (·.block) = some k) Wc w6) (hf : ∀ a2, A6 = some a2 → A = some a2 ∨ Wc.heap.size ≤ a2.block) : Grown gp gc gw n0 W s' w xs x rows row (max D D5) A6 c6 w6 := by
  have h' := h.on2 hB ⟨hg.1, hg.2.1, hg.2.2.2⟩
  have hlow : ∀ k, A.map (·.block) = some k → n0 ≤ k ∧ k < w.heap.size := fun k hk => by
    cases A with
    | none => cases hk
    | some a =>
      have e : a.block = k := by simpa using hk
      subst e
      exact h.low a rfl
  have hne : ∀ b, b < w5.heap.size → A.map (·.block) ≠ some b → A6.map (·.block) ≠ some b := fun b hb h1 h2 => by
    cases A6 with
    | none => cases h2
    | some a6 =>
      have e : a6.block = b := by simpa using h2
      rcases hf a6 rfl with e2 | e2
      · exact h1 (by rw [e2]; simpa using e)
      · have := hal.size; omega
  have hs := hB.size
  refine ⟨(hP.below hal).off hbut fun k hk => ?_, hown, fun k r y hr hy => ⟨(h'.at_ k r y hr hy).1, ?_⟩, ?_, (hB.mono fun i hi => .inl (by rcases hi with e | e; exact .inl e; exact .inr (.inl e))).trans (But.of_below hal |>.trans hbut (fun i hi => .inl hi)) fun i hi => .inl (.inr (.inr (hlow i hi).1))⟩
  · have := hlow k hk; omega
  · have h1 := ExAt.turn (F' := fun b => n0 ≤ b ∧ A6.map (·.block) ≠ some b ∧ A.map (·.block) ≠ some b) (fun k hk hf => ⟨hf.1, hne k hk hf.2, hf.2⟩) (Kept.of_below hal) D (Nat.le_max_left D D5) (h'.at_ k r y hr hy).2
    exact ExAt.conv (fun _ h => ⟨h.1, h.2.1⟩) (Kept.of_but hbut fun b hb hk => hb.2.2 hk) _ (Nat.le_refl _) h1
  · have h1 := ExAt.turn (F' := fun b => n0 ≤ b ∧ A6.map (·.block) ≠ some b ∧ A.map (·.block) ≠ some b) (fun k hk (hf : w.heap.size ≤ k) => ⟨by omega, hne k hk (fun e => by have := (hlow k e).2; omega), fun e => by have := (hlow k e).2; omega⟩) (Kept.of_below hal) D5 (Nat.le_max_right D D5) hx
    exact ExAt.conv (fun _ h => ⟨h.1, h.2.1⟩) (Kept.of_but hbut fun b hb hk => hb.2.2 hk) _ (Nat.le_refl _) h1
/-- appended first, then taken -/
theorem Grown.early {w7 : World} (h : ExsOwn n0 gl w A c rows D xs) (hg : gp < n0 ∧ gc < n0 ∧ gw < n0 ∧ gl ≠ gp ∧ gl ≠ gc) (hn : n0 ≤ w.heap.size) (hal : Below w.heap.size w Wc) {A6 : Option Addr} {c6 : Nat} (hown : w6.ownsRow n0 41 6 (.slice A6 (xs.length + 1) c6) (xs.length + 1) (rows ++ [zrow]).flatten)
    (hbut : But (fun k => A.map (·.block) = some k) Wc w6) (hf : ∀ a2, A6 = some a2 → A = some a2 ∨ Wc.heap.size ≤ a2.block) (hB : But (On2 gp gc) w6 w7) (hx : ExAt (Fr w6) D5 w7 row x) (hP : PAt gp gc gw W s' w7) : Grown gp gc gw n0 W s' w xs x rows row (max D D5) A6 c6 w7 := by
  have hlow : ∀ k, A.map (·.block) = some k → n0 ≤ k ∧ k < w.heap.size := fun k hk => by
    cases A with
    | none => cases hk
    | some a =>
      have e : a.block = k := by simpa using hk
      subst e
      exact h.low a rfl
  have hne : ∀ b, b < w.heap.size → A.map (·.block) ≠ some b → A6.map (·.block) ≠ some b := fun b hb h1 h2 => by
    cases A6 with
    | none => cases h2
    | some a6 =>
      have e : a6.block = b := by simpa using h2
      rcases hf a6 rfl with e2 | e2
      · exact h1 (by rw [e2]; simpa using e)
      · have := hal.size; omega
  have hs := hbut.size
  have hs2 := hal.size
  have hn6 : ∀ b, A6.map (·.block) = some b → n0 ≤ b ∧ b < w6.heap.size := fun b hb => by
    cases A6 with
    | none => cases hb
    | some a6 =>
      have e : a6.block = b := by simpa using hb
      subst e
      exact hown.lt a6.block rfl
  refine ⟨hP, own_but hown hB fun g hg2 hs => by have := (hown.lt g hg2).1; rcases hs with e | e <;> omega, fun k r y hr hy => ⟨(h.at_ k r y hr hy).1, ?_⟩, ?_, ?_⟩
  · have h1 := ExAt.turn (F' := fun b => n0 ≤ b ∧ A6.map (·.block) ≠ some b ∧ A.map (·.block) ≠ some b) (fun k hk hf => ⟨hf.1, hne k hk hf.2, hf.2⟩) (Kept.of_below hal) D (Nat.le_max_left D D5) (h.at_ k r y hr hy).2
    have h2 := ExAt.conv (F' := fun b => n0 ≤ b ∧ A6.map (·.block) ≠ some b) (fun _ h => ⟨h.1, h.2.1⟩) (Kept.of_but hbut fun b hb hk => hb.2.2 hk) _ (Nat.le_refl _) h1
    exact h2.kept (fr_on2 hB fun k hk => by omega)
  · exact ExAt.conv (fun k (hk : w6.heap.size ≤ k) => ⟨by omega, fun e => by have := (hn6 k e).2; omega⟩) (Kept.refl _ _) D5 (Nat.le_max_right D D5) hx
  · exact ((But.of_below hal).trans hbut (fun i hi => .inl (.inr (.inr (hlow i hi).1)))).trans hB (fun i hi => .inl (by rcases hi with e | e; exact .inl e; exact .inr (.inl e)))
end
/-- the new element is laid, and the slice -/
theorem ExsOwn.grown {gp gc gw gl n0 : Nat} {W : Wds} {s' : PSt} {w w6 : World} {xs : List Ex} {x : Ex} {rows : List (List Value)} {D g6 c6 : Nat} {A5 : Option Addr} {m5 c5 : Nat} {cs : Array Value}
    (hG : Grown gp gc gw n0 W s' w xs x rows [.int .i64 x.op, .int .i64 x.n, .string x.s, .string x.name, .string x.src, .slice A5 m5 c5] D (some ⟨g6, 0, none⟩) c6 w6) (hk : IsBlk w6 gl 39 cs) (hcs : cs.size = 1) (hg : gp < n0 ∧ gc < n0 ∧ gw < n0 ∧ gl ≠ gp ∧ gl ≠ gc) (hg2 : gl ≠ gw ∧ gl < n0) (hw : ∀ r ∈ rows, r.length = 6) (hl : rows.length = xs.length) (h6 : n0 ≤ g6) :
    PAt gp gc gw W s' ((lay6At w6 g6 (xs.length * 6) (.int .i64 x.op) (.int .i64 x.n) (.string x.s) (.string x.name) (.string x.src) (.slice A5 m5 c5)).setCell ⟨gl, 0, none⟩ (.slice (some ⟨g6, 0, none⟩) (xs.length + 1) c6)) ∧
    (∃ A' c' rows' D', ExsOwn n0 gl ((lay6At w6 g6 (xs.length * 6) (.int .i64 x.op) (.int .i64 x.n) (.string x.s) (.string x.name) (.string x.src) (.slice A5 m5 c5)).setCell ⟨gl, 0, none⟩ (.slice (some ⟨g6, 0, none⟩) (xs.length + 1) c6)) A' c' rows' D' (xs ++ [x])) ∧
    But (On3 gp gc gl n0) w ((lay6At w6 g6 (xs.length * 6) (.int .i64 x.op) (.int .i64 x.n) (.string x.s) (.string x.name) (.string x.src) (.slice A5 m5 c5)).setCell ⟨gl, 0, none⟩ (.slice (some ⟨g6, 0, none⟩) (xs.length + 1) c6)) := by
  have hb1 := lay6At_but w6 g6 (xs.length * 6) (.int .i64 x.op) (.int .i64 x.n) (.string x.s) (.string x.name) (.string x.src) (.slice A5 m5 c5)
  have ho1 := own_last (.int .i64 x.op) (.int .i64 x.n) (.string x.s) (.string x.name) (.string x.src) (.slice A5 m5 c5) hG.own hw hl
  have hp1 := hG.p.off hb1 (fun k hk => by omega)
  have hk1 := hk.as_was (hb1.block _ hk.lt (by omega))
  have hold1 : ∀ (k : Nat) (r : List Value) (y : Ex), rows[k]? = some r → xs[k]? = some y → r.length = 6 ∧ ExAt (fun b => n0 ≤ b ∧ (some (⟨g6, 0, none⟩ : Addr)).map (·.block) ≠ some b) D (lay6At w6 g6 (xs.length * 6) (.int .i64 x.op) (.int .i64 x.n) (.string x.s) (.string x.name) (.string x.src) (.slice A5 m5 c5)) r y := fun k r y h1 h2 => ⟨(hG.old k r y h1 h2).1, (hG.old k r y h1 h2).2.kept (Kept.of_but hb1 fun b hb e => hb.2 (by simp [e]))⟩
  have hnew1 := hG.new_.kept (Kept.of_but hb1 fun b hb e => hb.2 (by simp [e]))
  generalize lay6At w6 g6 (xs.length * 6) (.int .i64 x.op) (.int .i64 x.n) (.string x.s) (.string x.name) (.string x.src) (.slice A5 m5 c5) = w7 at *
  have hb2 := (But.refl (fun k => k = gl) w7).setCell (p := ⟨gl, 0, none⟩) (.inl rfl) (.slice (some ⟨g6, 0, none⟩) (xs.length + 1) c6)
  have hk2 : IsBlk (w7.setCell ⟨gl, 0, none⟩ (.slice (some ⟨g6, 0, none⟩) (xs.length + 1) c6)) gl 39 #[.slice (some ⟨g6, 0, none⟩) (xs.length + 1) c6] := by
    have h := hk1.stored 0 (.slice (some ⟨g6, 0, none⟩) (xs.length + 1) c6)
    have e : cs.setIfInBounds 0 (.slice (some ⟨g6, 0, none⟩) (xs.length + 1) c6) = #[.slice (some ⟨g6, 0, none⟩) (xs.length + 1) c6] := by
      apply Array.ext
      · simpa using hcs
      · intro i h1 h2
        have : i = 0 := by simp at h2; omega
        subst this
        simp
    rw [e] at h
    exact h
  have hlen : (xs ++ [x]).length = xs.length + 1 := by simp
  refine ⟨hp1.off hb2 (fun k hk => by omega), ⟨some ⟨g6, 0, none⟩, c6, rows ++ [[.int .i64 x.op, .int .i64 x.n, .string x.s, .string x.name, .string x.src, .slice A5 m5 c5]], D, ⟨by rw [hlen]; exact hk2, by rw [hlen]; exact own_but ho1 hb2 (fun g hg3 e => by have := (ho1.lt g hg3).1; omega), by simp [hl], fun k r y hr hy => ?_⟩⟩, ?_⟩
  · rcases Nat.lt_trichotomy k xs.length with h | h | h
    · rw [List.getElem?_append_left (by omega)] at hr hy
      obtain ⟨h1, h2⟩ := hold1 k r y hr hy
      exact ⟨h1, h2.kept (Kept.of_but hb2 fun b hb e => by have := hb.1; omega)⟩
    · subst h
      rw [List.getElem?_append_right (by omega)] at hr hy
      rw [hl] at hr
      simp at hr hy
      subst hr hy
      exact ⟨rfl, hnew1.kept (Kept.of_but hb2 fun b hb e => by have := hb.1; omega)⟩
    · rw [List.getElem?_eq_none (by simp; omega)] at hy
      cases hy
  · exact ((hG.but.mono (fun i hi => .inl (by rcases hi with e | e | e; exact .inl e; exact .inr (.inl e); exact .inr (.inr (.inr e))))).trans hb1 (fun i hi => .inl (.inr (.inr (.inr (by omega)))))).trans hb2 (fun i hi => .inl (.inr (.inr (.inl hi))))
theorem set_swap {w : World} {p q : Addr} {u v : Value} (h : p.block ≠ q.block) : (w.setCell p u).setCell q v = (w.setCell q v).setCell p u := by
  unfold World.setCell
  congr 1
  apply Array.ext_getElem?
  intro i
  simp only [Array.getElem?_modify]
  by_cases h1 : q.block = i
  · subst h1
    simp [h]
  · by_cases h2 : p.block = i
    · subst h2
      simp [h1]
    · simp [h1, h2]
theorem lay_swap {w : World} {g6 gl o : Nat} {v0 v1 v2 v3 v4 v5 u : Value} (h : g6 ≠ gl) :
    (((((((w.setCell ⟨gl, 0, none⟩ u).setCell ⟨g6, o, none⟩ v0).setCell ⟨g6, o + 1, none⟩ v1).setCell ⟨g6, o + 2, none⟩ v2).setCell ⟨g6, o + 3, none⟩ v3).setCell ⟨g6, o + 4, none⟩ v4).setCell ⟨g6, o + 5, none⟩ v5) =
    (((((((w.setCell ⟨g6, o, none⟩ v0).setCell ⟨g6, o + 1, none⟩ v1).setCell ⟨g6, o + 2, none⟩ v2).setCell ⟨g6, o + 3, none⟩ v3).setCell ⟨g6, o + 4, none⟩ v4).setCell ⟨g6, o + 5, none⟩ v5).setCell ⟨gl, 0, none⟩ u) := by
  have k : ∀ (W : World) (i : Nat) (v : Value), (W.setCell ⟨gl, 0, none⟩ u).setCell ⟨g6, i, none⟩ v = (W.setCell ⟨g6, i, none⟩ v).setCell ⟨gl, 0, none⟩ u := fun W i v => set_swap (fun e => h e.symm)
  rw [k, k, k, k, k, k]
end Go.Proofs.YtlakeanldbdedaaGreat
