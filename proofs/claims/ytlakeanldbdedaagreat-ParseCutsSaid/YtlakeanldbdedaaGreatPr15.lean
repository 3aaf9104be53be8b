/- Parts of this proof, one behind the other: ParF, ParU. -/
import Derived.Test.YtlakeanldbdedaaGreatPr11
import Derived.Test.YtlakeanldbdedaaGreatPr12
import Derived.Test.YtlakeanldbdedaaGreatPr13
import Derived.Test.YtlakeanldbdedaaGreatPr14
namespace Go.Proofs.YtlakeanldbdedaaGreat
open Go.RowKit Go.Afx

/-- a level that was just laid -/
theorem lv_lit (gp gc : Nat) (w : World) (l : List (ByteArray × Int)) (n g1 g2 : Nat) (e1 : g1 = w.heap.size) (e2 : g2 = w.heap.size + 1) (hg : gp < w.heap.size ∧ gc < w.heap.size) (hn2 : l.length = n) (hn : n ≤ 1000) :
    LvAt gp gc ((w.alloc (.cells (l.map fun p => Value.string p.1).toArray 9)).alloc (.cells (l.map fun p => Value.int .i64 p.2).toArray 3)) (some ⟨g1, 0, none⟩) n (some ⟨g2, 0, none⟩) n l ∧
    Below w.heap.size w ((w.alloc (.cells (l.map fun p => Value.string p.1).toArray 9)).alloc (.cells (l.map fun p => Value.int .i64 p.2).toArray 3)) := by
  subst hn2 e1 e2
  have hb := (Below.refl w.heap.size w).alloc (Nat.le_refl _) (.cells (l.map fun p => Value.string p.1).toArray 9)
  have h1 := TxsAt.lit (w := w) 9 (l.map (·.1)) l.length rfl (by simp) hn
  rw [List.map_map] at h1
  have h2 := RowsAt.below h1 ((Below.refl _ _).alloc (Nat.le_refl _) (.cells (l.map fun p => Value.int .i64 p.2).toArray 3))
  have h3 : RowsAt ((w.alloc (.cells (l.map fun p => Value.string p.1).toArray 9)).alloc (.cells (l.map fun p => Value.int .i64 p.2).toArray 3)) 1 (some ⟨w.heap.size + 1, 0, none⟩) l.length l.length (l.map fun p => [.int .i64 p.2]) := by
    refine RowsAt.lit' _ _ l.length (by simp) ?_ (fun r hr => by obtain ⟨p, _, rfl⟩ := List.mem_map.1 hr; rfl) (by simp) (by unfold maxLen; omega)
    clear h1 h2 hb hn
    show l.map (fun p => Value.int .i64 p.2) = _
    induction l with
    | nil => rfl
    | cons p l ih => rw [List.map_cons, List.map_cons, List.flatten_cons, ← ih]; rfl
  refine ⟨⟨h2, h3, fun x hx => ?_, fun x hx => ?_⟩, hb.alloc (by simp) _⟩
  · cases hx
    constructor <;> (show w.heap.size ≠ _; omega)
  · cases hx
    constructor <;> (show w.heap.size + 1 ≠ _; omega)
/-- a fresh tree behind a store elsewhere -/
theorem fr_turn {w w3 w4 w7 : World} {D g : Nat} {row : List Value} {e : Ex} (h : ExAt (Fr w3) D w4 row e) (hb : Below w.heap.size w w3) (hg : g < w3.heap.size) (h7 : But (fun k => k = g) w4 w7) : ExAt (Fr w) D w7 row e :=
  ExAt.conv (fun k (hk : w3.heap.size ≤ k) => by have := hb.size; show w.heap.size ≤ k; omega) (Kept.of_but h7 fun k (hk : w3.heap.size ≤ k) e => by omega) D (Nat.le_refl _) h
set_option maxRecDepth 100000 in
set_option maxHeartbeats 1000000 in
theorem pProduct_any (gp gc gw : Nat) (W : Wds) (one : PSt → Ex × PSt) (m : Nat) (hm : m ≤ W.l.length + 1) (hT : TakesE gp gc gw W 162 one m) (hU : Up one) : TakesE gp gc gw W 148 (chain1 W lvMul one) m := by
  intro s w h hf
  have hz := h.lt
  have hb1 := (Below.refl w.heap.size w).alloc (Nat.le_refl _) (.cells zero6 41)
  have hk1 := IsBlk.laid w 41 zero6
  have hg1 : gp < (w.alloc (.cells zero6 41)).heap.size ∧ gc < (w.alloc (.cells zero6 41)).heap.size := by simp; omega
  obtain ⟨hlv, hb2⟩ := lv_lit gp gc (w.alloc (.cells zero6 41)) lvMul 3 (w.heap.size + 1) (w.heap.size + 1 + 1) (by simp) (by simp) hg1 rfl (by decide)
  have hb3 := hb1.trans (hb2.mono (by simp))
  have hk3 := hk1.as_was (hb2.block _ (by simp))
  have hc := pChain_signed gp gc gw W s one m lvMul _ _ 3 _ _ _ (h.below hb3) hf hm hT hU hlv rfl (by unfold lvMul; decide)
  have Hb3 := Lib.hid hb3
  have Hk3 := Lib.hid hk3
  have Hz := Lib.hid (And.intro hz.1 (And.intro hz.2 h.wl))
  clear hb3 hk3 hz h hf hT hU hb1 hk1 hg1 hlv hb2
  generalize chain1 W lvMul one s = fin at *
  simp only [lvMul, str, List.map_cons, List.map_nil] at hc Hb3 Hk3
  have Hc := Lib.hid hc
  clear hc
  go_enter Tryz.func148, Tryz.ntmps148
  go_wp2_with (fail)
  refine Hc.out.mono ?_
  rintro e w4 ⟨row, D, rfl, hx, hP, hB⟩
  obtain ⟨A2, m2, c2, rfl⟩ := ex_row6 hx
  have hk4 := on2_blk Hk3.out hB (by have := Hz.out; omega)
  obtain ⟨x0, x1, x2, x3, x4, x5, xl⟩ := cells6 hk4
  have f4 := hk4.frozen
  have H := Lib.hid (And.intro hx (And.intro hP (And.intro hB hk4)))
  clear hx hP hB hk4
  go_wp2
  rw [lay6_eq]
  have hb7 := lay6_but w4 w.heap.size (.int .i64 fin.1.op) (.int .i64 fin.1.n) (.string fin.1.s) (.string fin.1.name) (.string fin.1.src) (.slice A2 m2 c2)
  have hk7 := lay6_blk (.int .i64 fin.1.op) (.int .i64 fin.1.n) (.string fin.1.s) (.string fin.1.name) (.string fin.1.src) (.slice A2 m2 c2) H.out.2.2.2
  generalize lay6 w4 w.heap.size (.int .i64 fin.1.op) (.int .i64 fin.1.n) (.string fin.1.s) (.string fin.1.name) (.string fin.1.src) (.slice A2 m2 c2) = w7 at *
  refine bodyPost_ret (v := .agg #[.int .i64 fin.1.op, .int .i64 fin.1.n, .string fin.1.s, .string fin.1.name, .string fin.1.src, .slice A2 m2 c2]) (ret_ex Tryz.results148 rfl hk7 rfl) rfl ?_
  exact ⟨_, D, rfl, fr_turn H.out.1 Hb3.out (by simp; omega) hb7, H.out.2.1.elsewhere hb7 (by have := Hz.out; omega), ((But.of_below Hb3.out).trans' H.out.2.2.1).trans hb7 (fun i hi => .inr (by omega))⟩
set_option maxRecDepth 100000 in
set_option maxHeartbeats 1000000 in
theorem pSum_any (gp gc gw : Nat) (W : Wds) (one : PSt → Ex × PSt) (m : Nat) (hm : m ≤ W.l.length + 1) (hT : TakesE gp gc gw W 148 one m) (hU : Up one) : TakesE gp gc gw W 134 (chain1 W lvSum one) m := by
  intro s w h hf
  have hz := h.lt
  have hb1 := (Below.refl w.heap.size w).alloc (Nat.le_refl _) (.cells zero6 41)
  have hk1 := IsBlk.laid w 41 zero6
  have hg1 : gp < (w.alloc (.cells zero6 41)).heap.size ∧ gc < (w.alloc (.cells zero6 41)).heap.size := by simp; omega
  obtain ⟨hlv, hb2⟩ := lv_lit gp gc (w.alloc (.cells zero6 41)) lvSum 2 (w.heap.size + 1) (w.heap.size + 1 + 1) (by simp) (by simp) hg1 rfl (by decide)
  have hb3 := hb1.trans (hb2.mono (by simp))
  have hk3 := hk1.as_was (hb2.block _ (by simp))
  have hc := pChain_product gp gc gw W s one m lvSum _ _ 2 _ _ _ (h.below hb3) hf hm hT hU hlv rfl (by unfold lvSum; decide)
  have Hb3 := Lib.hid hb3
  have Hk3 := Lib.hid hk3
  have Hz := Lib.hid (And.intro hz.1 (And.intro hz.2 h.wl))
  clear hb3 hk3 hz h hf hT hU hb1 hk1 hg1 hlv hb2
  generalize chain1 W lvSum one s = fin at *
  simp only [lvSum, str, List.map_cons, List.map_nil] at hc Hb3 Hk3
  have Hc := Lib.hid hc
  clear hc
  go_enter Tryz.func134, Tryz.ntmps134
  go_wp2_with (fail)
  refine Hc.out.mono ?_
  rintro e w4 ⟨row, D, rfl, hx, hP, hB⟩
  obtain ⟨A2, m2, c2, rfl⟩ := ex_row6 hx
  have hk4 := on2_blk Hk3.out hB (by have := Hz.out; omega)
  obtain ⟨x0, x1, x2, x3, x4, x5, xl⟩ := cells6 hk4
  have f4 := hk4.frozen
  have H := Lib.hid (And.intro hx (And.intro hP (And.intro hB hk4)))
  clear hx hP hB hk4
  go_wp2
  rw [lay6_eq]
  have hb7 := lay6_but w4 w.heap.size (.int .i64 fin.1.op) (.int .i64 fin.1.n) (.string fin.1.s) (.string fin.1.name) (.string fin.1.src) (.slice A2 m2 c2)
  have hk7 := lay6_blk (.int .i64 fin.1.op) (.int .i64 fin.1.n) (.string fin.1.s) (.string fin.1.name) (.string fin.1.src) (.slice A2 m2 c2) H.out.2.2.2
  generalize lay6 w4 w.heap.size (.int .i64 fin.1.op) (.int .i64 fin.1.n) (.string fin.1.s) (.string fin.1.name) (.string fin.1.src) (.slice A2 m2 c2) = w7 at *
  refine bodyPost_ret (v := .agg #[.int .i64 fin.1.op, .int .i64 fin.1.n, .string fin.1.s, .string fin.1.name, .string fin.1.src, .slice A2 m2 c2]) (ret_ex Tryz.results134 rfl hk7 rfl) rfl ?_
  exact ⟨_, D, rfl, fr_turn H.out.1 Hb3.out (by simp; omega) hb7, H.out.2.1.elsewhere hb7 (by have := Hz.out; omega), ((But.of_below Hb3.out).trans' H.out.2.2.1).trans hb7 (fun i hi => .inr (by omega))⟩
set_option maxRecDepth 100000 in
set_option maxHeartbeats 1000000 in
theorem pBoth_any (gp gc gw : Nat) (W : Wds) (one : PSt → Ex × PSt) (m : Nat) (hm : m ≤ W.l.length + 1) (hT : TakesE gp gc gw W 104 one m) (hU : Up one) : TakesE gp gc gw W 69 (chain1 W lvAnd one) m := by
  intro s w h hf
  have hz := h.lt
  have hb1 := (Below.refl w.heap.size w).alloc (Nat.le_refl _) (.cells zero6 41)
  have hk1 := IsBlk.laid w 41 zero6
  have hg1 : gp < (w.alloc (.cells zero6 41)).heap.size ∧ gc < (w.alloc (.cells zero6 41)).heap.size := by simp; omega
  obtain ⟨hlv, hb2⟩ := lv_lit gp gc (w.alloc (.cells zero6 41)) lvAnd 1 (w.heap.size + 1) (w.heap.size + 1 + 1) (by simp) (by simp) hg1 rfl (by decide)
  have hb3 := hb1.trans (hb2.mono (by simp))
  have hk3 := hk1.as_was (hb2.block _ (by simp))
  have hc := pChain_not gp gc gw W s one m lvAnd _ _ 1 _ _ _ (h.below hb3) hf hm hT hU hlv rfl (by unfold lvAnd; decide)
  have Hb3 := Lib.hid hb3
  have Hk3 := Lib.hid hk3
  have Hz := Lib.hid (And.intro hz.1 (And.intro hz.2 h.wl))
  clear hb3 hk3 hz h hf hT hU hb1 hk1 hg1 hlv hb2
  generalize chain1 W lvAnd one s = fin at *
  simp only [lvAnd, str, List.map_cons, List.map_nil] at hc Hb3 Hk3
  have Hc := Lib.hid hc
  clear hc
  go_enter Tryz.func69, Tryz.ntmps69
  go_wp2_with (fail)
  refine Hc.out.mono ?_
  rintro e w4 ⟨row, D, rfl, hx, hP, hB⟩
  obtain ⟨A2, m2, c2, rfl⟩ := ex_row6 hx
  have hk4 := on2_blk Hk3.out hB (by have := Hz.out; omega)
  obtain ⟨x0, x1, x2, x3, x4, x5, xl⟩ := cells6 hk4
  have f4 := hk4.frozen
  have H := Lib.hid (And.intro hx (And.intro hP (And.intro hB hk4)))
  clear hx hP hB hk4
  go_wp2
  rw [lay6_eq]
  have hb7 := lay6_but w4 w.heap.size (.int .i64 fin.1.op) (.int .i64 fin.1.n) (.string fin.1.s) (.string fin.1.name) (.string fin.1.src) (.slice A2 m2 c2)
  have hk7 := lay6_blk (.int .i64 fin.1.op) (.int .i64 fin.1.n) (.string fin.1.s) (.string fin.1.name) (.string fin.1.src) (.slice A2 m2 c2) H.out.2.2.2
  generalize lay6 w4 w.heap.size (.int .i64 fin.1.op) (.int .i64 fin.1.n) (.string fin.1.s) (.string fin.1.name) (.string fin.1.src) (.slice A2 m2 c2) = w7 at *
  refine bodyPost_ret (v := .agg #[.int .i64 fin.1.op, .int .i64 fin.1.n, .string fin.1.s, .string fin.1.name, .string fin.1.src, .slice A2 m2 c2]) (ret_ex Tryz.results69 rfl hk7 rfl) rfl ?_
  exact ⟨_, D, rfl, fr_turn H.out.1 Hb3.out (by simp; omega) hb7, H.out.2.1.elsewhere hb7 (by have := Hz.out; omega), ((But.of_below Hb3.out).trans' H.out.2.2.1).trans hb7 (fun i hi => .inr (by omega))⟩
set_option maxRecDepth 100000 in
set_option maxHeartbeats 1000000 in
theorem pExpr_any (gp gc gw : Nat) (W : Wds) (one : PSt → Ex × PSt) (m : Nat) (hm : m ≤ W.l.length + 1) (hT : TakesE gp gc gw W 69 one m) (hU : Up one) : TakesE gp gc gw W 27 (chain1 W lvOr one) m := by
  intro s w h hf
  have hz := h.lt
  have hb1 := (Below.refl w.heap.size w).alloc (Nat.le_refl _) (.cells zero6 41)
  have hk1 := IsBlk.laid w 41 zero6
  have hg1 : gp < (w.alloc (.cells zero6 41)).heap.size ∧ gc < (w.alloc (.cells zero6 41)).heap.size := by simp; omega
  obtain ⟨hlv, hb2⟩ := lv_lit gp gc (w.alloc (.cells zero6 41)) lvOr 1 (w.heap.size + 1) (w.heap.size + 1 + 1) (by simp) (by simp) hg1 rfl (by decide)
  have hb3 := hb1.trans (hb2.mono (by simp))
  have hk3 := hk1.as_was (hb2.block _ (by simp))
  have hc := pChain_both gp gc gw W s one m lvOr _ _ 1 _ _ _ (h.below hb3) hf hm hT hU hlv rfl (by unfold lvOr; decide)
  have Hb3 := Lib.hid hb3
  have Hk3 := Lib.hid hk3
  have Hz := Lib.hid (And.intro hz.1 (And.intro hz.2 h.wl))
  clear hb3 hk3 hz h hf hT hU hb1 hk1 hg1 hlv hb2
  generalize chain1 W lvOr one s = fin at *
  simp only [lvOr, str, List.map_cons, List.map_nil] at hc Hb3 Hk3
  have Hc := Lib.hid hc
  clear hc
  go_enter Tryz.func27, Tryz.ntmps27
  go_wp2_with (fail)
  refine Hc.out.mono ?_
  rintro e w4 ⟨row, D, rfl, hx, hP, hB⟩
  obtain ⟨A2, m2, c2, rfl⟩ := ex_row6 hx
  have hk4 := on2_blk Hk3.out hB (by have := Hz.out; omega)
  obtain ⟨x0, x1, x2, x3, x4, x5, xl⟩ := cells6 hk4
  have f4 := hk4.frozen
  have H := Lib.hid (And.intro hx (And.intro hP (And.intro hB hk4)))
  clear hx hP hB hk4
  go_wp2
  rw [lay6_eq]
  have hb7 := lay6_but w4 w.heap.size (.int .i64 fin.1.op) (.int .i64 fin.1.n) (.string fin.1.s) (.string fin.1.name) (.string fin.1.src) (.slice A2 m2 c2)
  have hk7 := lay6_blk (.int .i64 fin.1.op) (.int .i64 fin.1.n) (.string fin.1.s) (.string fin.1.name) (.string fin.1.src) (.slice A2 m2 c2) H.out.2.2.2
  generalize lay6 w4 w.heap.size (.int .i64 fin.1.op) (.int .i64 fin.1.n) (.string fin.1.s) (.string fin.1.name) (.string fin.1.src) (.slice A2 m2 c2) = w7 at *
  refine bodyPost_ret (v := .agg #[.int .i64 fin.1.op, .int .i64 fin.1.n, .string fin.1.s, .string fin.1.name, .string fin.1.src, .slice A2 m2 c2]) (ret_ex Tryz.results27 rfl hk7 rfl) rfl ?_
  exact ⟨_, D, rfl, fr_turn H.out.1 Hb3.out (by simp; omega) hb7, H.out.2.1.elsewhere hb7 (by have := Hz.out; omega), ((But.of_below Hb3.out).trans' H.out.2.2.1).trans hb7 (fun i hi => .inr (by omega))⟩
end Go.Proofs.YtlakeanldbdedaaGreat

namespace Go.Proofs.YtlakeanldbdedaaGreat
open Go.RowKit Go.Afx

def Ge (s s' : PSt) : Prop := s.at_ ≤ s'.at_ ∧ (s.bad = true → s'.bad = true)
theorem Ge.refl (s : PSt) : Ge s s := ⟨Nat.le_refl _, id⟩
theorem Ge.trans {a b c : PSt} (h : Ge a b) (k : Ge b c) : Ge a c := ⟨Nat.le_trans h.1 k.1, fun x => k.2 (h.2 x)⟩
theorem Fit.ge {W : Wds} {m : Nat} {s s' : PSt} (h : Fit W m s) (hg : Ge s s') : Fit W m s' := h.imp (hg.2) (fun h => by have := hg.1; omega)
theorem ge_on (s : PSt) : Ge s s.on := ⟨Nat.le_succ _, id⟩
theorem ge_fail (s : PSt) : Ge s s.fail := ⟨Nat.le_refl _, fun _ => rfl⟩
theorem ge_may (W : Wds) (t : ByteArray) (s : PSt) : Ge s (mayP W t s).2 := by
  unfold mayP
  split
  · exact ge_on s
  · exact Ge.refl s
theorem ge_must (W : Wds) (t : ByteArray) (s : PSt) : Ge s (mustP W [t] s) := by
  unfold mustP mustP
  split
  · exact ge_may W t s
  · exact ge_fail s
theorem ge_enter (s : PSt) : Ge s (enterP s) := by
  unfold enterP
  split
  · exact ⟨Nat.le_refl _, fun _ => rfl⟩
  · exact ⟨Nat.le_refl _, id⟩
theorem ge_leave (s : PSt) : Ge s (leaveP s) := ⟨Nat.le_refl _, id⟩
theorem up_name (W : Wds) (s : PSt) : Ge s (nameP W s).2 := by
  unfold nameP
  split
  · exact ge_fail s
  · exact ge_on s
theorem up_num (W : Wds) (s : PSt) : Ge s (numP W s).2 := by
  unfold numP
  split
  · exact Ge.refl s
  · split
    · exact ge_on s
    · exact ge_fail s
theorem up_op (W : Wds) (l : List (ByteArray × Int)) (s : PSt) : Ge s (opP W l s).2 := by
  rcases opP_cases W s l with h | ⟨p, _, h, _⟩
  · rw [h]; exact Ge.refl s
  · rw [h]; exact ge_on s
theorem up_chain (W : Wds) (l : List (ByteArray × Int)) {one : PSt → Ex × PSt} (h : ∀ s, Ge s (one s).2) : ∀ (k : Nat) (e : Ex) (s : PSt), Ge s (chainP W l one k e s).2 := by
  intro k
  induction k with
  | zero => exact fun e s => Ge.refl s
  | succ k ih =>
    intro e s
    unfold chainP
    split
    · exact up_op W l s
    · exact (up_op W l s).trans ((h _).trans (ih _ _))
theorem up_chain1 (W : Wds) (l : List (ByteArray × Int)) {one : PSt → Ex × PSt} (h : ∀ s, Ge s (one s).2) (s : PSt) : Ge s (chain1 W l one s).2 := (h s).trans (up_chain W l h _ _ _)
theorem up_rows (W : Wds) (s : PSt) : Ge s (rowsP W s).2 := (up_name W s).trans ((ge_must W _ _).trans (up_name W _))
section
variable (W : Wds) {E : PSt → Ex × PSt} (h : ∀ s, Ge s (E s).2)
include h
theorem up_where (s : PSt) : Ge s (whereP W E s).2 := by
  unfold whereP
  split
  · exact (ge_may W _ s).trans (h _)
  · exact Ge.refl s
omit h in
theorem up_foldOp (s : PSt) : Ge s (foldOp W s).2 := by
  unfold foldOp
  split
  · exact ge_may W _ s
  · split
    · exact ge_may W _ s
    · split
      · exact ge_may W _ s
      · exact ge_must W _ s
theorem up_fold (s : PSt) : Ge s (foldP W E s).2 := by
  have h1 := (up_foldOp W s).trans ((ge_must W (str [40]) _).trans ((ge_enter _).trans ((up_rows W _).trans (up_where W h _))))
  unfold foldP
  simp only
  split
  · exact h1.trans ((ge_must W _ _).trans (ge_leave _))
  · exact h1.trans ((ge_must W _ _).trans ((h _).trans ((ge_must W _ _).trans (ge_leave _))))
theorem up_paren (s : PSt) : Ge s (parenP W E s).2 := (ge_must W _ s).trans ((ge_enter _).trans ((h _).trans ((ge_must W _ _).trans (ge_leave _))))
omit h in
theorem up_var (s : PSt) : Ge s (varP W s).2 := by
  unfold varP
  simp only
  split
  · exact (up_name W s).trans ((ge_may W _ _).trans (up_name W _))
  · exact up_name W s
theorem up_single (s : PSt) : Ge s (singleP W E s).2 := by
  unfold singleP
  repeat' split
  all_goals first | exact Ge.refl s | exact ge_on s | exact up_fold W h s | exact up_paren W h s | exact up_var W s
theorem up_signed : ∀ (k : Nat) (s : PSt), Ge s (signedP W E k s).2 := by
  intro k
  induction k with
  | zero => exact fun s => Ge.refl s
  | succ k ih =>
    intro s
    unfold signedP
    split
    · exact (ge_may W _ s).trans ((ge_enter _).trans ((ih _).trans (ge_leave _)))
    · exact up_single W h s
theorem up_product (s : PSt) : Ge s (productP W E s).2 := up_chain1 W _ (up_signed W h _) s
theorem up_sum (s : PSt) : Ge s (sumP W E s).2 := up_chain1 W _ (up_product W h) s
theorem up_cmp (s : PSt) : Ge s (cmpP W E s).2 := by
  unfold cmpP
  simp only
  split
  · exact (up_sum W h s).trans (up_op W _ _)
  · exact (up_sum W h s).trans ((up_op W _ _).trans (up_sum W h _))
theorem up_not : ∀ (k : Nat) (s : PSt), Ge s (notP W E k s).2 := by
  intro k
  induction k with
  | zero => exact fun s => Ge.refl s
  | succ k ih =>
    intro s
    unfold notP
    split
    · exact (ge_may W _ s).trans ((ge_enter _).trans ((ih _).trans (ge_leave _)))
    · exact up_cmp W h s
theorem up_both (s : PSt) : Ge s (bothP W E s).2 := up_chain1 W _ (up_not W h _) s
end
theorem up_expr (W : Wds) : ∀ (f : Nat) (s : PSt), Ge s (exprP W f s).2 := by
  intro f
  induction f with
  | zero => exact fun s => Ge.refl s
  | succ f ih => exact fun s => up_chain1 W _ (up_both W ih) s
end Go.Proofs.YtlakeanldbdedaaGreat
