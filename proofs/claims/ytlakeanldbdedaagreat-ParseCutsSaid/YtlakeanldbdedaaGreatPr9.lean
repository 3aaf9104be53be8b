/- Parts of this proof, one behind the other: ParB, ParC. -/
import Derived.Test.YtlakeanldbdedaaGreatPr5
import Derived.Test.YtlakeanldbdedaaGreatPr8
namespace Go.Proofs.YtlakeanldbdedaaGreat
open Go.RowKit Go.Afx

/-- all blocks but the parser's and its cursor's -/
def Off (gp gc : Nat) : Nat → Prop := fun b => b ≠ gp ∧ b ≠ gc
def On2 (gp gc : Nat) : Nat → Prop := fun b => b = gp ∨ b = gc
/-- 'the parser in block gp, its cursor in block gc, its words in block gw, stands as s over the words W' -/
structure PAt (gp gc gw : Nat) (W : Wds) (s : PSt) (w : World) : Prop where
  blk : IsBlk w gp 82 #[.pointer (some ⟨gc, 0, none⟩), .int .i64 s.deep, .bool s.over, .bool s.bad]
  cu : CuAt (fun b => b = gw) gc W s.at_ w
  ne : gp ≠ gc
  nw : gw ≠ gp
  wl : gw < w.heap.size
section
variable {gp gc gw : Nat} {W : Wds} {s s' : PSt} {w w' : World}
theorem PAt.below (h : PAt gp gc gw W s w) (hb : Below w.heap.size w w') : PAt gp gc gw W s w' := ⟨h.blk.as_was (hb.block _ h.blk.lt), h.cu.below hb, h.ne, h.nw, Nat.lt_of_lt_of_le h.wl hb.size⟩
theorem PAt.lt (h : PAt gp gc gw W s w) : gp < w.heap.size ∧ gc < w.heap.size := ⟨h.blk.lt, h.cu.lt⟩
/-- what is elsewhere turns -/
theorem PAt.elsewhere (h : PAt gp gc gw W s w) {g : Nat} (hb : But (fun k => k = g) w w') (hg : gp < g ∧ gc < g ∧ gw < g) : PAt gp gc gw W s w' := by
  obtain ⟨⟨A, n, c, hk2, hl⟩, h1, h2, h3, h4⟩ := h.cu
  exact ⟨h.blk.as_was (hb.block _ h.blk.lt (by omega)), ⟨⟨A, n, c, hk2.as_was (hb.block _ hk2.lt (by omega)), hl.kept (Kept.of_but hb fun k hf e => by omega)⟩, h1, h2, h3, h4⟩, h.ne, h.nw, Nat.lt_of_lt_of_le h.wl hb.size⟩
/-- only the parser's own block has turned -/
theorem PAt.own (h : PAt gp gc gw W s w) (hb : But (fun k => k = gp) w w') (hk : IsBlk w' gp 82 #[.pointer (some ⟨gc, 0, none⟩), .int .i64 s'.deep, .bool s'.over, .bool s'.bad]) (ha : s'.at_ = s.at_) : PAt gp gc gw W s' w' := by
  obtain ⟨⟨A, n, c, hk2, hl⟩, h1, h2, h3, h4⟩ := h.cu
  refine ⟨hk, ⟨⟨A, n, c, ?_, hl.kept (Kept.of_but hb fun k hf e => h.nw (hf.symm.trans e))⟩, by rw [ha]; exact h1, h2, h3, h4⟩, h.ne, h.nw, Nat.lt_of_lt_of_le h.wl hb.size⟩
  rw [ha]
  exact hk2.as_was (hb.block _ hk2.lt fun e => h.ne e.symm)
/-- only the cursor has turned -/
theorem PAt.cursor (h : PAt gp gc gw W s w) (hb : But (fun k => k = gc) w w') (hc : CuAt (fun b => b = gw) gc W s'.at_ w') (hd : s'.deep = s.deep) (ho : s'.over = s.over) (hx : s'.bad = s.bad) : PAt gp gc gw W s' w' := by
  refine ⟨?_, hc, h.ne, h.nw, Nat.lt_of_lt_of_le h.wl hb.size⟩
  rw [hd, ho, hx]
  exact h.blk.as_was (hb.block _ h.blk.lt h.ne)
theorem PAt.okw (h : PAt gp gc gw W s w) (i : Nat) : okW (W.look i) := by
  obtain ⟨⟨A, n, c, hk2, hl⟩, h1, h2, h3, h4⟩ := h.cu
  have hn := hl.len
  rcases Nat.lt_or_ge i n with hi | hi
  · obtain ⟨b, o, r, x, _, _, _, hx, _, ⟨_, hok⟩, _⟩ := hl.get hi
    rw [look_in hx]; exact hok
  · rw [look_end (by omega)]
    exact ⟨by constructor <;> simp, by unfold okS; exact Nat.zero_le _, by constructor <;> simp, h3⟩
end
theorem sub2l {gp gc : Nat} {w w' : World} (h : But (fun k => k = gp) w w') : But (On2 gp gc) w w' := h.mono fun _ hi => .inl (.inl hi)
theorem sub2r {gp gc : Nat} {w w' : World} (h : But (fun k => k = gc) w w') : But (On2 gp gc) w w' := h.mono fun _ hi => .inl (.inr hi)

theorem pFail_any (gp gc gw : Nat) (W : Wds) (s : PSt) (w : World) (h : PAt gp gc gw W s w) :
    Calls Tryz.prog 84 #[.pointer (some ⟨gp, 0, none⟩)] w fun e w' => e = .returned (.tuple #[]) ∧ PAt gp gc gw W s.fail w' ∧ But (On2 gp gc) w w' := by
  obtain ⟨c0, c1, c2, c3, hg⟩ := cells4 h.blk
  have hfz := h.blk.frozen
  have Hh := Lib.hid h
  clear h
  go_enter Tryz.func84, Tryz.ntmps84
  go_wp2
  go_end0
  have hb := (But.refl (fun k => k = gp) w).setCell (p := ⟨gp, 3, none⟩) (.inl rfl) (.bool true)
  exact ⟨rfl, Hh.out.own hb (Hh.out.blk.stored 3 _) rfl, sub2l hb⟩
theorem pLeave_any (gp gc gw : Nat) (W : Wds) (s : PSt) (w : World) (h : PAt gp gc gw W s w) :
    Calls Tryz.prog 45 #[.pointer (some ⟨gp, 0, none⟩)] w fun e w' => e = .returned (.tuple #[]) ∧ PAt gp gc gw W (leaveP s) w' ∧ But (On2 gp gc) w w' := by
  obtain ⟨c0, c1, c2, c3, hg⟩ := cells4 h.blk
  have hfz := h.blk.frozen
  have Hh := Lib.hid h
  clear h
  go_enter Tryz.func45, Tryz.ntmps45
  go_wp2
  go_end0
  have hb := (But.refl (fun k => k = gp) w).setCell (p := ⟨gp, 1, none⟩) (.inl rfl) (.int .i64 (wrap64 (s.deep - 1)))
  exact ⟨rfl, Hh.out.own (s' := leaveP s) hb (Hh.out.blk.stored 1 _) rfl, sub2l hb⟩
set_option maxRecDepth 100000 in
theorem pEnter_any (gp gc gw : Nat) (W : Wds) (s : PSt) (w : World) (h : PAt gp gc gw W s w) :
    Calls Tryz.prog 40 #[.pointer (some ⟨gp, 0, none⟩)] w fun e w' => e = .returned (.tuple #[]) ∧ PAt gp gc gw W (enterP s) w' ∧ But (On2 gp gc) w w' := by
  obtain ⟨c0, c1, c2, c3, hg⟩ := cells4 h.blk
  have hfz := h.blk.frozen
  have hb := (But.refl (fun k => k = gp) w).setCell (p := ⟨gp, 1, none⟩) (.inl rfl) (.int .i64 (wrap64 (s.deep + 1)))
  have h1 : PAt gp gc gw W (upP s) _ := h.own (s' := upP s) hb (h.blk.stored 1 _) rfl
  have hb2 := hb.setCell (p := ⟨gp, 2, none⟩) (.inl rfl) (.bool true)
  have h2 : PAt gp gc gw W { upP s with over := true } _ := h1.own (s' := { upP s with over := true }) ((But.refl (fun k => k = gp) _).setCell (p := ⟨gp, 2, none⟩) (.inl rfl) (.bool true)) (h1.blk.stored 2 _) rfl
  have Hf := Lib.hid (pFail_any gp gc gw W _ _ h2)
  have H1 := Lib.hid h1
  have Hb := Lib.hid hb
  have Hb2 := Lib.hid hb2
  clear h h1 h2 hb hb2
  unfold enterP
  have e1 : (upP s).deep = wrap64 (s.deep + 1) := rfl
  rw [e1]
  clear e1
  rcases Classical.em (60 < wrap64 (s.deep + 1)) with hd | hd
  · have q1 : decide ((60 : Int) < wrap64 (s.deep + 1)) = true := by simpa using hd
    cases hbad : s.bad with
    | true =>
      rw [hbad] at c3
      rw [q1]
      simp only [Bool.not_true, Bool.and_false, Bool.false_eq_true, if_false]
      clear hbad
      go_enter Tryz.func40, Tryz.ntmps40
      go_wp2
      go_end0
      exact ⟨rfl, H1.out, sub2l Hb.out⟩
    | false =>
      rw [hbad] at c3
      rw [q1]
      simp only [Bool.not_false, Bool.and_true, if_true]
      clear hbad
      go_enter Tryz.func40, Tryz.ntmps40
      go_wp2_with (go_at_call 84; refine Hf.out.mono ?_; rintro e w2 ⟨rfl, h3, hb3⟩)
      go_end0
      exact ⟨rfl, h3, (sub2l Hb2.out).trans' hb3⟩
  · have q1 : decide ((60 : Int) < wrap64 (s.deep + 1)) = false := by simpa using hd
    rw [q1]
    simp only [Bool.false_and, Bool.false_eq_true, if_false]
    go_enter Tryz.func40, Tryz.ntmps40
    go_wp2
    go_end0
    exact ⟨rfl, H1.out, sub2l Hb.out⟩

set_option maxRecDepth 100000 in
theorem pMay_any (gp gc gw : Nat) (W : Wds) (s : PSt) (t : ByteArray) (w : World) (h : PAt gp gc gw W s w) :
    Calls Tryz.prog 46 #[.pointer (some ⟨gp, 0, none⟩), .string t] w fun e w' => e = .returned (.bool (mayP W t s).1) ∧ PAt gp gc gw W (mayP W t s).2 w' ∧ But (On2 gp gc) w w' := by
  obtain ⟨c0, c1, c2, c3, hg⟩ := cells4 h.blk
  have hb1 := (Below.refl w.heap.size w).alloc (Nat.le_refl _) (.cells #[.string t] 9)
  have h1 := h.below hb1
  have ht := take_any1 (fun b => b = gw) gc s.at_ W (some ⟨w.heap.size, 0, none⟩) 1 t _ h1.cu (TxsAt.lit 9 [t] 1 rfl rfl (by omega))
  have H1 := Lib.hid h1
  have Hb1 := Lib.hid hb1
  unfold mayP isP
  generalize hv : (W.look s.at_).says t = v at *
  have Ht := Lib.hid ht
  have Hh := Lib.hid h
  clear ht hb1 h1 h hv
  cases hbad : s.bad with
  | true =>
    rw [hbad] at c3
    simp only [Bool.not_true, Bool.false_and, Bool.false_eq_true, if_false]
    clear hbad
    go_enter Tryz.func46, Tryz.ntmps46
    go_wp2
    go_ret
    exact ⟨rfl, Hh.out, But.refl _ _⟩
  | false =>
    rw [hbad] at c3
    have Hbad := Lib.hid hbad
    clear hbad
    cases v with
    | false =>
      simp only [Bool.and_false, Bool.false_eq_true, if_false]
      go_enter Tryz.func46, Tryz.ntmps46
      go_wp2_with (go_at_call 83; refine Ht.out.mono ?_; rintro e w2 ⟨rfl, h3, hb3⟩)
      have H3 := Lib.hid (And.intro h3 hb3)
      clear h3 hb3
      go_wp2
      go_ret
      exact ⟨rfl, H1.out.cursor H3.out.2 (by simpa using H3.out.1) rfl rfl rfl, (But.of_below Hb1.out).trans' (sub2r (gp := gp) H3.out.2)⟩
    | true =>
      simp only [Bool.not_false, Bool.and_true, if_true]
      go_enter Tryz.func46, Tryz.ntmps46
      go_wp2_with (go_at_call 83; refine Ht.out.mono ?_; rintro e w2 ⟨rfl, h3, hb3⟩)
      have H3 := Lib.hid (And.intro h3 hb3)
      clear h3 hb3
      go_wp2
      go_ret
      exact ⟨rfl, H1.out.cursor (s' := s.on) H3.out.2 (by simpa [PSt.on] using H3.out.1) rfl rfl rfl, (But.of_below Hb1.out).trans' (sub2r (gp := gp) H3.out.2)⟩
theorem On2.alloc {gp gc : Nat} {w w' : World} (o : Obj) (h : But (On2 gp gc) (w.alloc o) w') : But (On2 gp gc) w w' := (But.of_below ((Below.refl _ _).alloc (Nat.le_refl _) o)).trans' h
set_option maxRecDepth 100000 in
/-- a word that must come next, just laid -/
theorem pMust_any (gp gc gw g : Nat) (W : Wds) (s : PSt) (t : ByteArray) (w : World) (h : PAt gp gc gw W s w) (hgs : g = w.heap.size) :
    Calls Tryz.prog 38 #[.pointer (some ⟨gp, 0, none⟩), .slice (some ⟨g, 0, none⟩) 1 1] (w.alloc (.cells #[.string t] 9)) fun e w' => e = .returned (.tuple #[]) ∧ PAt gp gc gw W (mustP W [t] s) w' ∧ But (On2 gp gc) w w' := by
  have hb1 := (Below.refl w.heap.size w).alloc (Nat.le_refl _) (.cells #[.string t] 9)
  have hz1 := hb1.size
  obtain ⟨w1, Hw1⟩ : ∃ w1, Hid (w1 = w.alloc (.cells #[.string t] 9)) := ⟨_, rfl⟩
  have h1 := h.below hb1
  have hk1 := IsBlk.laid w 9 #[.string t]
  rw [← Hw1.out] at hb1 h1 hk1 ⊢
  rw [← hgs] at hk1
  have hc1 : w1.cell? ⟨g, 0, none⟩ = some (.string t) := by have := hk1.cell 0; simpa using this
  have hlt1 := hk1.lt
  obtain ⟨c0, c1, c2, c3, hg⟩ := cells4 h1.blk
  have hb2 := (Below.refl w1.heap.size w1).alloc (Nat.le_refl _) (.cells #[.string t] 9)
  have h2 := h1.below hb2
  have ht := take_any1 (fun b => b = gw) gc s.at_ W (some ⟨w1.heap.size, 0, none⟩) 1 t _ h2.cu (TxsAt.lit 9 [t] 1 rfl rfl (by omega))
  have Hf1 := Lib.hid (pFail_any gp gc gw W s w1 h1)
  have Hf2 := Lib.hid (fun w2 (hW : PAt gp gc gw W s w2) => pFail_any gp gc gw W s w2 hW)
  have H1 := Lib.hid h1
  have H2 := Lib.hid h2
  have Hb1 := Lib.hid hb1
  have Hb2 := Lib.hid hb2
  unfold mustP mustP mayP isP
  generalize hv : (W.look s.at_).says t = v at *
  have Ht := Lib.hid ht
  clear ht hb1 hb2 h1 h2 h hv hk1 hz1 hgs
  cases hbad : s.bad with
  | true =>
    rw [hbad] at c3
    simp only [Bool.not_true, Bool.false_and, Bool.false_eq_true, if_false]
    clear hbad
    go_enter Tryz.func38, Tryz.ntmps38
    go_wp2
    refine wp_loop_rounds 2 ?_
    rw [rounds_succ]
    go_wp2_with (go_at_call 84; refine Hf1.out.mono ?_; rintro e w2 ⟨rfl, h3, hb3⟩)
    have H3 := Lib.hid (And.intro h3 hb3)
    clear h3 hb3
    go_wp2
    refine bodyPost_ret (results_none rfl _ _ _) rfl ?_
    exact ⟨rfl, H3.out.1, (But.of_below Hb1.out).trans' H3.out.2⟩
  | false =>
    rw [hbad] at c3
    clear hbad
    cases v with
    | false =>
      simp only [Bool.and_false, Bool.false_eq_true, if_false]
      go_enter Tryz.func38, Tryz.ntmps38
      go_wp2
      refine wp_loop_rounds 2 ?_
      rw [rounds_succ]
      go_wp2_with (go_at_call 83; refine Ht.out.mono ?_; rintro e w2 ⟨rfl, h3, hb3⟩)
      have H3 := Lib.hid (And.intro (H2.out.cursor (s' := s) hb3 (by simpa using h3) rfl rfl rfl) ((But.of_below Hb1.out).trans' ((But.of_below Hb2.out).trans' (sub2r (gp := gp) hb3))))
      clear h3 hb3
      go_wp2_with (go_at_call 84; refine (Hf2.out _ H3.out.1).mono ?_; rintro e w3 ⟨rfl, h4, hb4⟩)
      have H4 := Lib.hid (And.intro h4 (H3.out.2.trans' hb4))
      clear h4 hb4
      go_wp2
      refine bodyPost_ret (results_none rfl _ _ _) rfl ?_
      exact ⟨rfl, H4.out.1, H4.out.2⟩
    | true =>
      simp only [Bool.not_false, Bool.and_true, if_true]
      go_enter Tryz.func38, Tryz.ntmps38
      go_wp2
      refine wp_loop_rounds 2 ?_
      rw [rounds_succ]
      go_wp2_with (go_at_call 83; refine Ht.out.mono ?_; rintro e w2 ⟨rfl, h3, hb3⟩)
      have H3 := Lib.hid (And.intro (H2.out.cursor (s' := s.on) hb3 (by simpa [PSt.on] using h3) rfl rfl rfl) ((But.of_below Hb1.out).trans' ((But.of_below Hb2.out).trans' (sub2r (gp := gp) hb3))))
      clear h3 hb3
      rw [rounds_succ]
      go_wp2
      go_end0
      exact ⟨rfl, H3.out.1, H3.out.2⟩

theorem word_new (w : World) : IsBlk (w.alloc (.cells #[.int .i64 0, .string ⟨#[]⟩, .int .i64 0, .int .i64 0] 36)) w.heap.size 36 #[.int .i64 0, .string ⟨#[]⟩, .int .i64 0, .int .i64 0] := IsBlk.laid _ _ _
set_option maxRecDepth 100000 in
theorem pNumber_any (gp gc gw : Nat) (W : Wds) (s : PSt) (w : World) (h : PAt gp gc gw W s w) :
    Calls Tryz.prog 47 #[.pointer (some ⟨gp, 0, none⟩)] w fun e w' => e = .returned (.int .i64 (numP W s).1) ∧ PAt gp gc gw W (numP W s).2 w' ∧ But (On2 gp gc) w w' := by
  obtain ⟨c0, c1, c2, c3, hg⟩ := cells4 h.blk
  have hk := kind_any (fun b => b = gw) gc s.at_ 1 W w h.cu (by omega)
  have Hh := Lib.hid h
  unfold numP
  have Hf := Lib.hid (fun w2 (hW : PAt gp gc gw W s w2) => pFail_any gp gc gw W s w2 hW)
  generalize hx : W.look s.at_ = x at *
  obtain ⟨xk, xs, xn, xa⟩ := x
  have hk : Calls Tryz.prog 86 #[.pointer (some ⟨gc, 0, none⟩), .int .i64 1] w fun e w' => e = .returned (.tuple #[.agg (if xk = 1 then wrow ⟨xk, xs, xn, xa⟩ else [.int .i64 0, .string ⟨#[]⟩, .int .i64 0, .int .i64 0]).toArray, .bool (decide (xk = 1))]) ∧
      CuAt (fun b => b = gw) gc W (if xk = 1 then s.at_ + 1 else s.at_) w' ∧ But (fun k => k = gc) w w' := hk
  clear h hx
  cases hbad : s.bad with
  | true =>
    rw [hbad] at c3
    clear hbad hk
    simp only [if_true]
    go_enter Tryz.func47, Tryz.ntmps47
    go_wp2
    go_ret
    exact ⟨rfl, Hh.out, But.refl _ _⟩
  | false =>
    rw [hbad] at c3
    clear hbad
    simp only [Bool.false_eq_true, if_false]
    show Calls _ _ _ _ fun e w' => e = .returned (.int .i64 (if xk = 1 then (xn, s.on) else (0, s.fail)).1) ∧ PAt gp gc gw W (if xk = 1 then (xn, s.on) else (0, s.fail)).2 w' ∧ But (On2 gp gc) w w'
    rcases Classical.em (xk = 1) with he | he
    · simp only [if_pos he, decide_eq_true he] at hk ⊢
      unfold wrow at hk
      have Hk := Lib.hid hk
      clear hk he
      go_enter Tryz.func47, Tryz.ntmps47
      go_wp2_with (go_at_call 86; refine Hk.out.mono ?_; rintro e w2 ⟨rfl, h3, hb3⟩)
      have H3 := Lib.hid (And.intro h3 hb3)
      clear h3 hb3
      go_wp2
      go_ret
      exact ⟨rfl, (Hh.out.cursor (s' := s.on) H3.out.2 (by simpa [PSt.on] using H3.out.1) rfl rfl rfl).below ((Below.refl _ _).alloc (Nat.le_refl _) _), (sub2r (gp := gp) H3.out.2).alloc _⟩
    · simp only [if_neg he, decide_eq_false he] at hk ⊢
      have Hk := Lib.hid hk
      clear hk he
      go_enter Tryz.func47, Tryz.ntmps47
      go_wp2_with (go_at_call 86; refine Hk.out.mono ?_; rintro e w2 ⟨rfl, h3, hb3⟩)
      have h4 := (Hh.out.cursor (s' := s) hb3 (by simpa using h3) rfl rfl rfl).below ((Below.refl _ _).alloc (Nat.le_refl _) (.cells #[.int .i64 0, .string ⟨#[]⟩, .int .i64 0, .int .i64 0] 36))
      have H4 := Lib.hid (And.intro h4 ((sub2r (gp := gp) hb3).alloc (.cells #[.int .i64 0, .string ⟨#[]⟩, .int .i64 0, .int .i64 0] 36)))
      have hk5 := word_new w2
      have hne : w2.heap.size ≠ gp ∧ w2.heap.size ≠ gc := by
        have := Hh.out.lt; have := hb3.size
        constructor <;> omega
      clear h3 hb3 h4
      refine (Hf.out _ H4.out.1).mono ?_
      rintro e w3 ⟨rfl, h4, hb4⟩
      obtain ⟨k0, k1, k2, k3, klt⟩ := cells4 (hk5.as_was (hb4.block _ hk5.lt (by rintro (e | e); exact hne.1 e; exact hne.2 e)))
      have H5 := Lib.hid (And.intro h4 (H4.out.2.trans' hb4))
      clear h4 hb4 hk5 hne
      go_wp2
      go_ret
      exact ⟨rfl, H5.out.1, H5.out.2⟩
end Go.Proofs.YtlakeanldbdedaaGreat

namespace Go.Proofs.YtlakeanldbdedaaGreat
open Go.RowKit Go.Afx

set_option maxRecDepth 100000 in
set_option maxHeartbeats 1000000 in
theorem pName_any (gp gc gw : Nat) (W : Wds) (s : PSt) (w : World) (h : PAt gp gc gw W s w) :
    Calls Tryz.prog 39 #[.pointer (some ⟨gp, 0, none⟩)] w fun e w' => e = .returned (.string (nameP W s).1) ∧ PAt gp gc gw W (nameP W s).2 w' ∧ But (On2 gp gc) w w' := by
  obtain ⟨c0, c1, c2, c3, hg⟩ := cells4 h.blk
  have hwd := word_any (fun b => b = gw) gc s.at_ W w h.cu
  have Hk0 := Lib.hid (fun w2 (hW : PAt gp gc gw W s w2) => kind_any (fun b => b = gw) gc s.at_ 3 W w2 hW.cu (by omega))
  have Hf := Lib.hid (fun w2 (hW : PAt gp gc gw W s w2) => pFail_any gp gc gw W s w2 hW)
  unfold nameP
  generalize hx : W.look s.at_ = x at *
  obtain ⟨xk, xs, xn, xa⟩ := x
  have Hres := Lib.hid (fun w => reserved_any xs w)
  unfold wrow at hwd
  have Hwd := Lib.hid hwd
  have Hk : Hid (∀ w2, PAt gp gc gw W s w2 → Calls Tryz.prog 86 #[.pointer (some ⟨gc, 0, none⟩), .int .i64 3] w2 fun e w' => e = .returned (.tuple #[.agg (if xk = 3 then [.int .i64 xk, .string xs, .int .i64 xn, .int .i64 xa] else [.int .i64 0, .string ⟨#[]⟩, .int .i64 0, .int .i64 0]).toArray, .bool (decide (xk = 3))]) ∧
      CuAt (fun b => b = gw) gc W (if xk = 3 then s.at_ + 1 else s.at_) w' ∧ But (fun k => k = gc) w2 w') := Hk0
  clear Hk0
  have Hh := Lib.hid h
  have hlt := h.lt
  clear h hx hwd
  show Calls _ _ _ _ fun e w' => e = .returned (.string (if s.bad || !decide (xk = 3) || resB xs then ((⟨#[]⟩ : ByteArray), s.fail) else (xs, s.on)).1) ∧ PAt gp gc gw W (if s.bad || !decide (xk = 3) || resB xs then ((⟨#[]⟩ : ByteArray), s.fail) else (xs, s.on)).2 w' ∧ But (On2 gp gc) w w'
  clear hlt
  obtain ⟨bad, hbad⟩ : ∃ b, s.bad = b := ⟨_, rfl⟩
  rw [hbad]
  have Hbad := Lib.hid hbad
  clear hbad c0 c1 c2 c3
  obtain ⟨c0, c1, c2, c3, _⟩ := cells4 Hh.out.blk
  rw [Hbad.out] at c3
  cases bad with
  | true =>
    simp only [Bool.true_or, if_true]
    go_enter Tryz.func39, Tryz.ntmps39
    go_wp2_with (go_at_call 37; refine Hwd.out.mono ?_; rintro e w2 ⟨rfl, hb2⟩; obtain ⟨d0, d1, d2, d3, dg⟩ := cells4 (Hh.out.below hb2).blk; rw [Hbad.out] at d3)
    have hb3 := hb2.alloc hb2.size (.cells #[.int .i64 xk, .string xs, .int .i64 xn, .int .i64 xa] 36)
    refine (Hf.out _ (Hh.out.below hb3)).mono ?_
    rintro e w3 ⟨rfl, h3, hb4⟩
    have H5 := Lib.hid (And.intro h3 ((But.of_below hb3).trans' hb4))
    clear hb2 hb3 hb4 h3
    go_wp2
    go_ret
    exact ⟨rfl, H5.out.1, H5.out.2⟩
  | false =>
    simp only [Bool.false_or]
    rcases Classical.em (xk = 3) with he | he
    · subst he
      simp only [decide_true, Bool.not_true, Bool.false_or, if_true] at Hk ⊢
      have hres := Hres.out
      generalize hr : resB xs = r at *
      have Hres := Lib.hid hres
      clear hres hr
      cases r with
      | true =>
        simp only [if_true]
        go_enter Tryz.func39, Tryz.ntmps39
        go_wp2_with (first | (go_at_call 37; refine Hwd.out.mono ?_; rintro e w2 ⟨rfl, hb2⟩; obtain ⟨d0, d1, d2, d3, dg⟩ := cells4 (Hh.out.below hb2).blk; rw [Hbad.out] at d3) | (go_at_call 85; refine (Hres.out _).mono ?_; rintro e w5 ⟨rfl, hb5⟩; have hb6 := (hb2.alloc hb2.size (.cells #[.int .i64 3, .string xs, .int .i64 xn, .int .i64 xa] 36)).trans (hb5.mono (by have := hb2.size; simp; omega)); obtain ⟨f0, f1, f2, f3, fg⟩ := cells4 (Hh.out.below hb6).blk))
        refine (Hf.out _ (Hh.out.below hb6)).mono ?_
        rintro e w3 ⟨rfl, h3, hb4⟩
        have H5 := Lib.hid (And.intro h3 ((But.of_below hb6).trans' hb4))
        clear hb2 hb4 h3 hb6 hb5
        go_wp2
        go_ret
        exact ⟨rfl, H5.out.1, H5.out.2⟩
      | false =>
        simp only [Bool.false_eq_true, if_false]
        go_enter Tryz.func39, Tryz.ntmps39
        go_wp2_with (first | (go_at_call 37; refine Hwd.out.mono ?_; rintro e w2 ⟨rfl, hb2⟩; obtain ⟨d0, d1, d2, d3, dg⟩ := cells4 (Hh.out.below hb2).blk; rw [Hbad.out] at d3) | (go_at_call 85; refine (Hres.out _).mono ?_; rintro e w5 ⟨rfl, hb5⟩; have hb6 := (hb2.alloc hb2.size (.cells #[.int .i64 3, .string xs, .int .i64 xn, .int .i64 xa] 36)).trans (hb5.mono (by have := hb2.size; simp; omega)); obtain ⟨f0, f1, f2, f3, fg⟩ := cells4 (Hh.out.below hb6).blk))
        refine (Hk.out _ (Hh.out.below hb6)).mono ?_
        rintro e w3 ⟨rfl, h3, hb4⟩
        have h4 := (Hh.out.below hb6).cursor (s' := s.on) hb4 (by simpa [PSt.on] using h3) rfl rfl rfl
        have H5 := Lib.hid (And.intro h4 ((But.of_below hb6).trans' (sub2r (gp := gp) hb4)))
        clear hb2 hb4 h3 hb6 hb5 h4
        go_wp2
        go_ret
        exact ⟨rfl, H5.out.1.below ((Below.refl _ _).alloc (Nat.le_refl _) _), H5.out.2.alloc _⟩
    · have q2 : (xk != 3) = true := by simpa using he
      simp only [decide_eq_false he, Bool.not_false, Bool.true_or, if_true]
      clear he
      go_enter Tryz.func39, Tryz.ntmps39
      go_wp2_with (go_at_call 37; refine Hwd.out.mono ?_; rintro e w2 ⟨rfl, hb2⟩; obtain ⟨d0, d1, d2, d3, dg⟩ := cells4 (Hh.out.below hb2).blk; rw [Hbad.out] at d3)
      have hb3 := hb2.alloc hb2.size (.cells #[.int .i64 xk, .string xs, .int .i64 xn, .int .i64 xa] 36)
      refine (Hf.out _ (Hh.out.below hb3)).mono ?_
      rintro e w3 ⟨rfl, h3, hb4⟩
      have H5 := Lib.hid (And.intro h3 ((But.of_below hb3).trans' hb4))
      clear hb2 hb3 hb4 h3
      go_wp2
      go_ret
      exact ⟨rfl, H5.out.1, H5.out.2⟩
end Go.Proofs.YtlakeanldbdedaaGreat
