/- Parts of this proof, one behind the other: ParT, ParN1. -/
import Derived.Test.YtlakeanldbdedaaGreatPr23
namespace Go.Proofs.YtlakeanldbdedaaGreat
open Go.RowKit Go.Afx

theorem limitP_eq (W : Wds) (s : PSt) : limitP W s = (min (numP W (if (W.look s.at_).kind = 1 ∧ (W.look s.at_).n = 0 then s.fail else s)).1 1001, (numP W (if (W.look s.at_).kind = 1 ∧ (W.look s.at_).n = 0 then s.fail else s)).2) := rfl
set_option maxRecDepth 100000 in
set_option maxHeartbeats 2000000 in
theorem pLimit_any (gp gc gw : Nat) (W : Wds) (s : PSt) (w : World) (h : PAt gp gc gw W s w) :
    Calls Tryz.prog 121 #[.pointer (some ⟨gp, 0, none⟩)] w fun e w' => e = .returned (.int .i64 (limitP W s).1) ∧ PAt gp gc gw W (limitP W s).2 w' ∧ But (On2 gp gc) w w' := by
  obtain ⟨c0, c1, c2, c3, hg⟩ := cells4 h.blk
  have hwd := word_any _ gc s.at_ W w h.cu
  have hfin := limitP_eq W s
  generalize limitP W s = fin at *
  generalize hx : W.look s.at_ = x at *
  obtain ⟨xk, xs, xn, xa⟩ := x
  unfold wrow at hwd
  simp only at hfin
  have Hwd := Lib.hid hwd
  have Hf := Lib.hid (fun s' w2 (hW : PAt gp gc gw W s' w2) => pFail_any gp gc gw W s' w2 hW)
  have Hnum := Lib.hid (fun s' w2 (hW : PAt gp gc gw W s' w2) => pNumber_any gp gc gw W s' w2 hW)
  have Hh := Lib.hid h
  have Hfin := Lib.hid hfin
  clear hwd hfin hx h
  rcases Classical.em (xk = 1 ∧ xn = 0) with hc | hc
  · obtain ⟨rfl, rfl⟩ := hc
    have hf := Hfin.out
    rw [if_pos ⟨rfl, rfl⟩] at hf
    have HF := Lib.hid hf
    clear hf Hfin
    go_enter Tryz.func121, Tryz.ntmps121
    go_wp2_with (fail)
    refine Hwd.out.mono ?_
    rintro e w2 ⟨rfl, hb2⟩
    have hb3 := hb2.alloc hb2.size (.cells #[.int .i64 1, .string xs, .int .i64 0, .int .i64 xa] 36)
    have H3 := Lib.hid (And.intro (Hh.out.below hb3) (But.of_below (S := On2 gp gc) hb3))
    clear hb2 hb3
    go_wp2_with (fail)
    refine (Hf.out _ _ H3.out.1).mono ?_
    rintro e w4 ⟨rfl, hP, hB⟩
    have H4 := Lib.hid (And.intro hP (H3.out.2.trans' hB))
    clear hP hB
    have hn := Hnum.out _ _ H4.out.1
    generalize numP W s.fail = r at *
    obtain ⟨rn, rs⟩ := r
    simp only at hn HF
    have Hn := Lib.hid hn
    clear hn
    go_wp2_with (fail)
    refine Hn.out.mono ?_
    rintro e w5 ⟨rfl, hP, hB⟩
    have H5 := Lib.hid (And.intro hP (H4.out.2.trans' hB))
    clear hP hB
    go_wp2
    all_goals
      go_ret
      rw [HF.out]
      refine ⟨ret_int ?_, H5.out.1, H5.out.2⟩
      simp only
      omega
  · rcases Classical.em (xk = 1) with h1 | h1
    · have q1 : (xk == 1) = true := by simpa using h1
      have q2 : (xn == 0) = false := by
        rcases Classical.em (xn = 0) with h2 | h2
        · exact absurd ⟨h1, h2⟩ hc
        · simpa using h2
      clear h1
      have hf := Hfin.out
      rw [if_neg hc] at hf
      have HF := Lib.hid hf
      clear hf Hfin hc
      have hn := fun w2 (hW : PAt gp gc gw W s w2) => Hnum.out s w2 hW
      generalize numP W s = r at *
      obtain ⟨rn, rs⟩ := r
      simp only at hn HF
      have Hn := Lib.hid hn
      clear hn
      go_enter Tryz.func121, Tryz.ntmps121
      go_wp2_with (fail)
      refine Hwd.out.mono ?_
      rintro e w2 ⟨rfl, hb2⟩
      have hb3 := hb2.alloc hb2.size (.cells #[.int .i64 xk, .string xs, .int .i64 xn, .int .i64 xa] 36)
      have H3 := Lib.hid (And.intro (Hh.out.below hb3) (But.of_below (S := On2 gp gc) hb3))
      clear hb2 hb3
      go_wp2_with (fail)
      refine (Hn.out _ H3.out.1).mono ?_
      rintro e w5 ⟨rfl, hP, hB⟩
      have H5 := Lib.hid (And.intro hP (H3.out.2.trans' hB))
      clear hP hB
      go_wp2
      all_goals
        go_ret
        rw [HF.out]
        refine ⟨ret_int ?_, H5.out.1, H5.out.2⟩
        simp only
        omega
    · have q1 : (xk == 1) = false := by simpa using h1
      clear h1
      have hf := Hfin.out
      rw [if_neg hc] at hf
      have HF := Lib.hid hf
      clear hf Hfin hc
      have hn := fun w2 (hW : PAt gp gc gw W s w2) => Hnum.out s w2 hW
      generalize numP W s = r at *
      obtain ⟨rn, rs⟩ := r
      simp only at hn HF
      have Hn := Lib.hid hn
      clear hn
      go_enter Tryz.func121, Tryz.ntmps121
      go_wp2_with (fail)
      refine Hwd.out.mono ?_
      rintro e w2 ⟨rfl, hb2⟩
      have hb3 := hb2.alloc hb2.size (.cells #[.int .i64 xk, .string xs, .int .i64 xn, .int .i64 xa] 36)
      have H3 := Lib.hid (And.intro (Hh.out.below hb3) (But.of_below (S := On2 gp gc) hb3))
      clear hb2 hb3
      go_wp2_with (fail)
      refine (Hn.out _ H3.out.1).mono ?_
      rintro e w5 ⟨rfl, hP, hB⟩
      have H5 := Lib.hid (And.intro hP (H3.out.2.trans' hB))
      clear hP hB
      go_wp2
      all_goals
        go_ret
        rw [HF.out]
        refine ⟨ret_int ?_, H5.out.1, H5.out.2⟩
        simp only
        omega
end Go.Proofs.YtlakeanldbdedaaGreat

namespace Go.Proofs.YtlakeanldbdedaaGreat
open Go.RowKit Go.Afx

/-- 'these are expressions in a row of the call's own (behind n0); they read no block of X' -/
structure ExRow (n0 : Nat) (X : Nat → Prop) (w : World) (A : Option Addr) (c : Nat) (rows : List (List Value)) (D : Nat) (xs : List Ex) : Prop where
  own : w.ownsRow n0 41 6 (.slice A xs.length c) xs.length rows.flatten
  len : rows.length = xs.length
  at_ : ∀ (k : Nat) (r : List Value) (x : Ex), rows[k]? = some r → xs[k]? = some x → r.length = 6 ∧ ExAt (fun b => n0 ≤ b ∧ A.map (·.block) ≠ some b ∧ ¬ X b) D w r x
  off : ∀ b, X b → A.map (·.block) ≠ some b
theorem ExRow.low {n0 : Nat} {X : Nat → Prop} {w : World} {A : Option Addr} {c : Nat} {rows : List (List Value)} {D : Nat} {xs : List Ex} (h : ExRow n0 X w A c rows D xs) : ∀ k, A.map (·.block) = some k → n0 ≤ k ∧ k < w.heap.size := by
  intro k hk
  cases A with
  | none => cases hk
  | some a =>
    have e : a.block = k := by simpa using hk
    subst e
    exact h.own.lt a.block rfl
theorem ExRow.wid {n0 : Nat} {X : Nat → Prop} {w : World} {A : Option Addr} {c : Nat} {rows : List (List Value)} {D : Nat} {xs : List Ex} (h : ExRow n0 X w A c rows D xs) : ∀ r ∈ rows, r.length = 6 := by
  intro r hr
  obtain ⟨k, hk, rfl⟩ := List.mem_iff_getElem.1 hr
  exact (h.at_ k _ _ (List.getElem?_eq_getElem hk) (List.getElem?_eq_getElem (by have := h.len; omega))).1
/-- what is neither its row nor its trees' turns; X may grow by what is new -/
theorem ExRow.keep {n0 : Nat} {X X' : Nat → Prop} {w w' : World} {A : Option Addr} {c : Nat} {rows : List (List Value)} {D : Nat} {xs : List Ex} {S : Nat → Prop} (h : ExRow n0 X w A c rows D xs) (hb : But S w w') (hS : ∀ k, S k → k < n0 ∨ X k) (hX : ∀ k, X' k → X k ∨ w.heap.size ≤ k) : ExRow n0 X' w' A c rows D xs := by
  refine ⟨own_but h.own hb (fun g hg hs => ?_), h.len, fun k r x hr hx => ⟨(h.at_ k r x hr hx).1, ?_⟩, fun b hb2 e => ?_⟩
  · obtain ⟨A', c', e1, hnc⟩ := ownsRow_form h.own
    have h1 := h.own.lt g hg
    rcases hS g hs with h2 | h2
    · omega
    · refine h.off g h2 ?_
      cases A with
      | none => cases hg
      | some a => exact hg
  · have h1 := ExAt.turn (F' := fun b => (n0 ≤ b ∧ A.map (·.block) ≠ some b ∧ ¬ X' b) ∧ ¬ X b) (fun k hk hf => ⟨⟨hf.1, hf.2.1, fun hx' => by rcases hX k hx' with e | e; exact hf.2.2 e; omega⟩, hf.2.2⟩) (Kept.refl _ _) D (Nat.le_refl _) (h.at_ k r x hr hx).2
    exact ExAt.conv (fun _ h => h.1) (Kept.of_but hb fun b hb2 hs => by rcases hS b hs with e | e; have := hb2.1.1; omega; exact hb2.2 e) D (Nat.le_refl _) h1
  · rcases hX b hb2 with e2 | e2
    · exact h.off b e2 e
    · have := (h.low b e).2; omega
/-- behind an append of a zero to a row, and a taken expression -/
structure GrownX (gp gc gw n0 : Nat) (X : Nat → Prop) (W : Wds) (s' : PSt) (w : World) (A : Option Addr) (xs : List Ex) (x : Ex) (rows : List (List Value)) (row : List Value) (D : Nat) (A6 : Option Addr) (c6 : Nat) (W6 : World) : Prop where
  p : PAt gp gc gw W s' W6
  own : W6.ownsRow n0 41 6 (.slice A6 (xs.length + 1) c6) (xs.length + 1) (rows ++ [zrow]).flatten
  old : ∀ (k : Nat) (r : List Value) (y : Ex), rows[k]? = some r → xs[k]? = some y → r.length = 6 ∧ ExAt (fun b => n0 ≤ b ∧ A6.map (·.block) ≠ some b ∧ ¬ X b) D W6 r y
  new_ : ExAt (fun b => n0 ≤ b ∧ A6.map (·.block) ≠ some b ∧ ¬ X b) D W6 row x
  off : ∀ b, X b → A6.map (·.block) ≠ some b
  fr : ∀ k, A6.map (·.block) = some k → A.map (·.block) = some k ∨ w.heap.size ≤ k
  but : But (fun k => k = gp ∨ k = gc ∨ A.map (·.block) = some k) w W6
theorem GrownX.of {gp gc gw n0 : Nat} {X : Nat → Prop} {W : Wds} {s' : PSt} {w Wc w5 w6 : World} {A : Option Addr} {c D D5 : Nat} {rows : List (List Value)} {xs : List Ex} {x : Ex} {row : List Value} (h : ExRow n0 X w A c rows D xs) (hg : gp < n0 ∧ gc < n0 ∧ gw < n0) (hn : n0 ≤ w.heap.size) (hX : ∀ k, X k → k < w.heap.size) (hB : But (On2 gp gc) w w5) (hx : ExAt (Fr w) D5 w5 row x) (hP : PAt gp gc gw W s' w5)
    (hal : Below w5.heap.size w5 Wc) {A6 : Option Addr} {c6 : Nat} (hown : w6.ownsRow n0 41 6 (.slice A6 (xs.length + 1) c6) (xs.length + 1) (rows ++ [zrow]).flatten)
    (hbut : But (fun k => A.map (·.block) = some k) Wc w6) (hf : ∀ a2, A6 = some a2 → A = some a2 ∨ Wc.heap.size ≤ a2.block) : GrownX gp gc gw n0 X W s' w A xs x rows row (max D D5) A6 c6 w6 := by
  have h' : ExRow n0 X w5 A c rows D xs := h.keep hB (fun k hk => by rcases hk with e | e <;> subst e <;> omega) (fun k hk => .inl hk)
  have hlow := h.low
  have hs := hB.size
  have hsz := hal.size
  have hfr : ∀ b, A6.map (·.block) = some b → A.map (·.block) = some b ∨ w5.heap.size ≤ b := fun b h2 => by
    cases A6 with
    | none => cases h2
    | some a6 =>
      have e : a6.block = b := by simpa using h2
      rcases hf a6 rfl with e2 | e2
      · exact .inl (by rw [e2]; simpa using e)
      · exact .inr (by omega)
  have hne : ∀ b, b < w5.heap.size → A.map (·.block) ≠ some b → A6.map (·.block) ≠ some b := fun b hb h1 h2 => by
    rcases hfr b h2 with e | e
    · exact h1 e
    · omega
  refine ⟨(hP.below hal).off hbut fun k hk => ?_, hown, fun k r y hr hy => ⟨(h'.at_ k r y hr hy).1, ?_⟩, ?_, fun b hb => hne b (by have := hX b hb; omega) (h.off b hb), fun k hk => (hfr k hk).imp id (fun e => by omega), (hB.mono fun i hi => .inl (by rcases hi with e | e; exact .inl e; exact .inr (.inl e))).trans (But.of_below hal |>.trans hbut (fun i hi => .inl hi)) fun i hi => .inl (.inr (.inr hi))⟩
  · have := hlow k hk; omega
  · have h1 := ExAt.turn (F' := fun b => (n0 ≤ b ∧ A6.map (·.block) ≠ some b ∧ ¬ X b) ∧ A.map (·.block) ≠ some b) (fun k hk hf => ⟨⟨hf.1, hne k hk hf.2.1, hf.2.2⟩, hf.2.1⟩) (Kept.of_below hal) D (Nat.le_max_left D D5) (h'.at_ k r y hr hy).2
    exact ExAt.conv (fun _ h => h.1) (Kept.of_but hbut fun b hb hk => hb.2 hk) _ (Nat.le_refl _) h1
  · have h1 := ExAt.turn (F' := fun b => (n0 ≤ b ∧ A6.map (·.block) ≠ some b ∧ ¬ X b) ∧ A.map (·.block) ≠ some b) (fun k hk (hf : w.heap.size ≤ k) => ⟨⟨by omega, hne k hk (fun e => by have := (hlow k e).2; omega), fun e => by have := hX k e; omega⟩, fun e => by have := (hlow k e).2; omega⟩) (Kept.of_below hal) D5 (Nat.le_max_right D D5) hx
    exact ExAt.conv (fun _ h => h.1) (Kept.of_but hbut fun b hb hk => hb.2 hk) _ (Nat.le_refl _) h1
/-- the new element is laid, and the slice -/
theorem ExRow.grown {gp gc gw gl n0 j : Nat} {X : Nat → Prop} {W : Wds} {s' : PSt} {w w6 : World} {A : Option Addr} {xs : List Ex} {x : Ex} {rows : List (List Value)} {D g6 c6 : Nat} {A5 : Option Addr} {m5 c5 : Nat} {T : TypeId} {cs : Array Value}
    (hG : GrownX gp gc gw n0 X W s' w A xs x rows [.int .i64 x.op, .int .i64 x.n, .string x.s, .string x.name, .string x.src, .slice A5 m5 c5] D (some ⟨g6, 0, none⟩) c6 w6) (hk : IsBlk w6 gl T cs) (hg : gp < n0 ∧ gc < n0 ∧ gw < n0 ∧ gl ≠ gp ∧ gl ≠ gc ∧ gl ≠ gw ∧ gl < n0) (hw : ∀ r ∈ rows, r.length = 6) (hl : rows.length = xs.length) (h6 : n0 ≤ g6) :
    PAt gp gc gw W s' ((lay6At w6 g6 (xs.length * 6) (.int .i64 x.op) (.int .i64 x.n) (.string x.s) (.string x.name) (.string x.src) (.slice A5 m5 c5)).setCell ⟨gl, j, none⟩ (.slice (some ⟨g6, 0, none⟩) (xs.length + 1) c6)) ∧
    (∃ rows', ExRow n0 X ((lay6At w6 g6 (xs.length * 6) (.int .i64 x.op) (.int .i64 x.n) (.string x.s) (.string x.name) (.string x.src) (.slice A5 m5 c5)).setCell ⟨gl, j, none⟩ (.slice (some ⟨g6, 0, none⟩) (xs.length + 1) c6)) (some ⟨g6, 0, none⟩) c6 rows' D (xs ++ [x])) ∧
    IsBlk ((lay6At w6 g6 (xs.length * 6) (.int .i64 x.op) (.int .i64 x.n) (.string x.s) (.string x.name) (.string x.src) (.slice A5 m5 c5)).setCell ⟨gl, j, none⟩ (.slice (some ⟨g6, 0, none⟩) (xs.length + 1) c6)) gl T (cs.setIfInBounds j (.slice (some ⟨g6, 0, none⟩) (xs.length + 1) c6)) ∧
    But (fun k => k = gp ∨ k = gc ∨ k = gl ∨ A.map (·.block) = some k) w ((lay6At w6 g6 (xs.length * 6) (.int .i64 x.op) (.int .i64 x.n) (.string x.s) (.string x.name) (.string x.src) (.slice A5 m5 c5)).setCell ⟨gl, j, none⟩ (.slice (some ⟨g6, 0, none⟩) (xs.length + 1) c6)) := by
  have hb1 := lay6At_but w6 g6 (xs.length * 6) (.int .i64 x.op) (.int .i64 x.n) (.string x.s) (.string x.name) (.string x.src) (.slice A5 m5 c5)
  have ho1 := own_last (.int .i64 x.op) (.int .i64 x.n) (.string x.s) (.string x.name) (.string x.src) (.slice A5 m5 c5) hG.own hw hl
  have hp1 := hG.p.off hb1 (fun k hk => by omega)
  have hk1 := hk.as_was (hb1.block _ hk.lt (by omega))
  have hold1 : ∀ (k : Nat) (r : List Value) (y : Ex), rows[k]? = some r → xs[k]? = some y → r.length = 6 ∧ ExAt (fun b => n0 ≤ b ∧ (some (⟨g6, 0, none⟩ : Addr)).map (·.block) ≠ some b ∧ ¬ X b) D (lay6At w6 g6 (xs.length * 6) (.int .i64 x.op) (.int .i64 x.n) (.string x.s) (.string x.name) (.string x.src) (.slice A5 m5 c5)) r y := fun k r y h1 h2 => ⟨(hG.old k r y h1 h2).1, (hG.old k r y h1 h2).2.kept (Kept.of_but hb1 fun b hb e => hb.2.1 (by simp [e]))⟩
  have hnew1 := hG.new_.kept (Kept.of_but hb1 fun b hb e => hb.2.1 (by simp [e]))
  have hfr := hG.fr g6 rfl
  generalize lay6At w6 g6 (xs.length * 6) (.int .i64 x.op) (.int .i64 x.n) (.string x.s) (.string x.name) (.string x.src) (.slice A5 m5 c5) = w7 at *
  have hb2 := (But.refl (fun k => k = gl) w7).setCell (p := ⟨gl, j, none⟩) (.inl rfl) (.slice (some ⟨g6, 0, none⟩) (xs.length + 1) c6)
  have hk2 := hk1.stored j (.slice (some ⟨g6, 0, none⟩) (xs.length + 1) c6)
  have hlen : (xs ++ [x]).length = xs.length + 1 := by simp
  refine ⟨hp1.off hb2 (fun k hk => by omega), ⟨rows ++ [[.int .i64 x.op, .int .i64 x.n, .string x.s, .string x.name, .string x.src, .slice A5 m5 c5]], ⟨by rw [hlen]; exact own_but ho1 hb2 (fun g hg3 e => by have := (ho1.lt g hg3).1; omega), by simp [hl], fun k r y hr hy => ?_, hG.off⟩⟩, hk2, ?_⟩
  · rcases Nat.lt_trichotomy k xs.length with h | h | h
    · rw [List.getElem?_append_left (by omega)] at hr hy
      obtain ⟨h1, h2⟩ := hold1 k r y hr hy
      exact ⟨h1, h2.kept (Kept.of_but hb2 fun b hb e => by have := hb.1; omega)⟩
    · subst h
      rw [List.getElem?_append_right (by omega)] at hr hy
      rw [hl] at hr
      simp at hr hy
      subst hr hy
      exact ⟨rfl, hnew1.kept (Kept.of_but hb2 fun b hb e => by have := hb.1; omega)⟩
    · rw [List.getElem?_eq_none (by simp; omega)] at hy
      cases hy
  · exact ((hG.but.mono (fun i hi => .inl (by rcases hi with e | e | e; exact .inl e; exact .inr (.inl e); exact .inr (.inr (.inr e))))).trans hb1 (fun i hi => by subst hi; rcases hfr with e | e; exact .inl (.inr (.inr (.inr e))); exact .inr e)).trans hb2 (fun i hi => .inl (.inr (.inr (.inl hi))))
theorem lay_swapJ {w : World} {g6 gl o j : Nat} {v0 v1 v2 v3 v4 v5 u : Value} (h : g6 ≠ gl) :
    (((((((w.setCell ⟨gl, j, none⟩ u).setCell ⟨g6, o, none⟩ v0).setCell ⟨g6, o + 1, none⟩ v1).setCell ⟨g6, o + 2, none⟩ v2).setCell ⟨g6, o + 3, none⟩ v3).setCell ⟨g6, o + 4, none⟩ v4).setCell ⟨g6, o + 5, none⟩ v5) =
    (((((((w.setCell ⟨g6, o, none⟩ v0).setCell ⟨g6, o + 1, none⟩ v1).setCell ⟨g6, o + 2, none⟩ v2).setCell ⟨g6, o + 3, none⟩ v3).setCell ⟨g6, o + 4, none⟩ v4).setCell ⟨g6, o + 5, none⟩ v5).setCell ⟨gl, j, none⟩ u) := by
  have k : ∀ (W : World) (i : Nat) (v : Value), (W.setCell ⟨gl, j, none⟩ u).setCell ⟨g6, i, none⟩ v = (W.setCell ⟨g6, i, none⟩ v).setCell ⟨gl, j, none⟩ u := fun W i v => set_swap (fun e => h e.symm)
  rw [k, k, k, k, k, k]
theorem tyTxt : ElemTy Tryz.prog 56 9 1 16 (.string ByteArray.empty) := ⟨Tryz.underlying56, by kernel_rfl, rfl, by decide⟩
abbrev txrow (x : ByteArray) : List Value := [.string x]
/-- an update that grows: its names and its expressions -/
structure SetOwn (n0 gl : Nat) (w : World) (nm sc : ByteArray) (Ac : Option Addr) (cc : Nat) (A : Option Addr) (c : Nat) (rows : List (List Value)) (D : Nat) (ns : List ByteArray) (xs : List Ex) : Prop where
  blk : IsBlk w gl 58 #[.int .i64 4, .string nm, .string sc, .int .i64 0, .slice Ac ns.length cc, .slice A xs.length c, .slice none 0 0, .slice none 0 0]
  ownc : w.ownsRow n0 9 1 (.slice Ac ns.length cc) ns.length (ns.map txrow).flatten
  okc : ∀ x ∈ ns, okS x
  row : ExRow n0 (fun k => Ac.map (·.block) = some k) w A c rows D xs
theorem SetOwn.lowc {n0 gl : Nat} {w : World} {nm sc : ByteArray} {Ac : Option Addr} {cc : Nat} {A : Option Addr} {c : Nat} {rows : List (List Value)} {D : Nat} {ns : List ByteArray} {xs : List Ex} (h : SetOwn n0 gl w nm sc Ac cc A c rows D ns xs) : ∀ k, Ac.map (·.block) = some k → n0 ≤ k ∧ k < w.heap.size := by
  intro k hk
  cases Ac with
  | none => cases hk
  | some a =>
    have e : a.block = k := by simpa using hk
    subst e
    exact h.ownc.lt a.block rfl
theorem SetOwn.on2 {gp gc n0 gl : Nat} {w w5 : World} {nm sc : ByteArray} {Ac : Option Addr} {cc : Nat} {A : Option Addr} {c : Nat} {rows : List (List Value)} {D : Nat} {ns : List ByteArray} {xs : List Ex} (h : SetOwn n0 gl w nm sc Ac cc A c rows D ns xs) (hb : But (On2 gp gc) w w5) (hg : gp < n0 ∧ gc < n0 ∧ gl ≠ gp ∧ gl ≠ gc) : SetOwn n0 gl w5 nm sc Ac cc A c rows D ns xs :=
  ⟨h.blk.as_was (hb.block _ h.blk.lt (by rintro (e | e); exact hg.2.2.1 e; exact hg.2.2.2 e)), own_but h.ownc hb (fun g hg2 hs => by have := (h.ownc.lt g hg2).1; rcases hs with e | e <;> omega), h.okc, h.row.keep hb (fun k hk => by rcases hk with e | e <;> subst e <;> omega) (fun k hk => .inl hk)⟩
/-- one name more -/
theorem SetOwn.named {n0 gl : Nat} {w Wc w6 : World} {nm sc : ByteArray} {Ac : Option Addr} {cc : Nat} {A : Option Addr} {c : Nat} {rows : List (List Value)} {D : Nat} {ns : List ByteArray} {xs : List Ex} {x : ByteArray} (h : SetOwn n0 gl w nm sc Ac cc A c rows D ns xs) (hx : okS x) (hgl : gl < n0) (hal : Below w.heap.size w Wc) {A6 : Option Addr} {c6 : Nat}
    (hown : w6.ownsRow n0 9 1 (.slice A6 (ns.length + 1) c6) (ns.length + 1) (ns.map txrow ++ [txrow x]).flatten) (hbut : But (fun k => Ac.map (·.block) = some k) Wc w6) (hf : ∀ a2, A6 = some a2 → Ac = some a2 ∨ Wc.heap.size ≤ a2.block) :
    ∃ a6, A6 = some a6 ∧ n0 ≤ a6.block ∧ IsBlk w6 gl 58 #[.int .i64 4, .string nm, .string sc, .int .i64 0, .slice Ac ns.length cc, .slice A xs.length c, .slice none 0 0, .slice none 0 0] ∧
    SetOwn n0 gl (w6.setCell ⟨gl, 4, none⟩ (.slice A6 (ns.length + 1) c6)) nm sc A6 c6 A c rows D (ns ++ [x]) xs := by
  have hlow := h.lowc
  have hsz := hal.size
  have hk6 := (h.blk.as_was (hal.block _ h.blk.lt)).as_was (hbut.block _ (h.blk.as_was (hal.block _ h.blk.lt)).lt (fun e => by have := hlow gl e; omega))
  have hb2 := (But.refl (fun k => k = gl) w6).setCell (p := ⟨gl, 4, none⟩) (.inl rfl) (.slice A6 (ns.length + 1) c6)
  obtain ⟨g, cap, hv, hb, hg⟩ := hown.form (by omega)
  simp only [Value.slice.injEq] at hv
  obtain ⟨rfl, _, _⟩ := hv
  have hr := h.row.keep (S := fun _ => False) (X' := fun k => Ac.map (·.block) = some k) (But.of_below hal) (fun _ h => h.elim) (fun k hk => .inl hk)
  have hr2 := hr.keep (X' := fun k => (some (⟨g, 0, none⟩ : Addr)).map (·.block) = some k) hbut (fun k hk => .inr hk) (fun k hk => by
    have e : g = k := by simpa using hk
    subst e
    rcases hf _ rfl with e2 | e2
    · exact .inl (by rw [e2]; rfl)
    · exact .inr e2)
  have hr3 := hr2.keep (X' := fun k => (some (⟨g, 0, none⟩ : Addr)).map (·.block) = some k) hb2 (fun k hk => by subst hk; exact .inl hgl) (fun k hk => .inl hk)
  refine ⟨_, rfl, hb, hk6, ?_, ?_, ?_, hr3⟩
  · have := hk6.stored 4 (.slice (some ⟨g, 0, none⟩) (ns.length + 1) c6)
    simpa using this
  · have e : (ns ++ [x]).length = ns.length + 1 := by simp
    have e2 : (ns ++ [x]).map txrow = ns.map txrow ++ [txrow x] := by simp
    rw [e, e2]
    exact own_but hown hb2 (fun g2 hg2 e2 => by have := (hown.lt g2 hg2).1; omega)
  · intro y hy
    rcases List.mem_append.1 hy with hy | hy
    · exact h.okc y hy
    · simp only [List.mem_singleton] at hy; subst hy; exact hx
end Go.Proofs.YtlakeanldbdedaaGreat
