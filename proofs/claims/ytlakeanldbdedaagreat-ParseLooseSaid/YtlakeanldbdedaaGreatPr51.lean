/- Parts of this proof, one behind the other: ParZ8, ParZ9, LxB, LwL. -/
import Derived.Test.YtlakeanldbdedaaGreatPr47
import Derived.Test.YtlakeanldbdedaaGreatPr50
import Derived.Test.YtlakeanldbdedaaGreatPr49
namespace Go.Proofs.YtlakeanldbdedaaGreat
open Go.RowKit Go.Afx


def exprX (L : List UInt8) : Ex × Int × Int := textX ex0 (rgtE 9000) expr1 L
set_option maxHeartbeats 1000000 in
theorem exprClo_any (gp gc gw gx : Nat) (W : Wds) (s : PSt) (w : World) (cs : Array Value) (h : PAt gp gc gw W s w) (hx : IsBlk w gx 41 cs) (hcs : cs.size = 6) (hg : gp ≠ gx ∧ gc ≠ gx ∧ gw ≠ gx) :
    Calls Tryz.prog 26 #[.pointer (some ⟨gp, 0, none⟩), .pointer (some ⟨gx, 0, none⟩)] w fun e w' => e = .returned (.tuple #[]) ∧ (∃ row D, IsBlk w' gx 41 row.toArray ∧ ExAt (Fr w) D w' row (expr1 W s).1) ∧ PAt gp gc gw W (expr1 W s).2 w' ∧ But (fun k => k = gp ∨ k = gc ∨ k = gx) w w' := by
  have hp := pExpr1_any gp gc gw W s w h
  generalize expr1 W s = fin at *
  obtain ⟨v0, v1, v2, v3, v4, v5, rfl⟩ : ∃ v0 v1 v2 v3 v4 v5, cs = #[v0, v1, v2, v3, v4, v5] := by
    obtain ⟨l⟩ := cs
    match l, hcs with
    | [a, b, c, d, e, f], _ => exact ⟨a, b, c, d, e, f, rfl⟩
  have Hp := Lib.hid hp
  have Hx := Lib.hid hx
  have hlt := hx.lt
  clear hp hx h
  go_enter Tryz.func26, Tryz.ntmps26
  go_wp2_with (fail)
  refine Hp.out.mono ?_
  rintro e w2 ⟨row, D, rfl, hpr, hP, hB⟩
  have hk2 := Hx.out.as_was (hB.block _ Hx.out.lt (by rintro (e | e) <;> omega))
  obtain ⟨x0, x1, x2, x3, x4, x5, xl⟩ := cells6 hk2
  have fx := hk2.frozen
  obtain ⟨A, m, c, rfl⟩ := ex_row6 hpr
  have H2 := Lib.hid (And.intro hpr (And.intro hP (And.intro hB hk2)))
  clear hpr hP hB hk2
  go_wp2
  rw [lay6_eq]
  refine bodyPost_end (results_none rfl _ _ _) rfl ?_
  have hb7 := lay6_but w2 gx (.int .i64 fin.1.op) (.int .i64 fin.1.n) (.string fin.1.s) (.string fin.1.name) (.string fin.1.src) (.slice A m c)
  refine ⟨rfl, ⟨_, D, lay6_blk _ _ _ _ _ _ H2.out.2.2.2, ?_⟩, H2.out.2.1.aside hb7 hg, ((H2.out.2.2.1.mono (fun i hi => .inl (by rcases hi with e | e; exact .inl e; exact .inr (.inl e)))).trans hb7 (fun i hi => .inl (.inr (.inr hi))))⟩
  exact ExAt.conv (fun _ h => h) (Kept.of_but hb7 fun k (hk : w.heap.size ≤ k) e => by omega) D (Nat.le_refl D) H2.out.1

set_option maxHeartbeats 1000000 in
theorem rightExpr_clo (F : Nat → Prop) (gx : Nat) (p : Ex) (row : List Value) (w : World) (hx : IsBlk w gx 41 row.toArray) (h : ExAt F 9000 w row p) :
    Calls Tryz.prog 28 #[.pointer (some ⟨gx, 0, none⟩)] w fun e w' => e = .returned (.bool (rgtE 9000 p)) ∧ Below w.heap.size w w' := by

  have hr := rgtE_any F 9000 p row w h (by omega)
  obtain ⟨A, m, c, rfl⟩ := ex_row6 h

  obtain ⟨x0, x1, x2, x3, x4, x5, xl⟩ := cells6 hx
  generalize rgtE 9000 p = q at *
  have Hr := Lib.hid hr
  clear hr hx
  go_enter Tryz.func28, Tryz.ntmps28
  go_wp2_with (fail)
  refine Hr.out.mono ?_
  rintro e w2 ⟨rfl, hb⟩
  have Hb := Lib.hid hb
  clear hb
  go_wp2
  go_ret
  exact ⟨rfl, Hb.out⟩
/-- what is told of a text that is taken -/
def SaidExpr (gx : Nat) (w : World) (x : Ex × Int × Int) (e : Ending) (w' : World) : Prop := e = .returned (.tuple #[.int .i64 x.2.1, .int .i64 x.2.2]) ∧ But (fun k => k = gx) w w' ∧ (x.2.2 = 0 → (∃ row, IsBlk w' gx 41 row.toArray ∧ ExAt (Fr w) 9000 w' row x.1))
set_option maxRecDepth 100000 in
set_option maxHeartbeats 4000000 in
theorem parsedExpr_any (s : ByteArray) (gx g0 : Nat) (w : World) (hx : IsBlk w gx 41 zero6) (h0 : g0 < w.heap.size ∧ g0 ≠ gx) :
    Calls Tryz.prog 14 #[.string s, .func (.func 26) #[] #[.pointer (some ⟨gx, 0, none⟩)], .func (.func 28) #[] #[.pointer (some ⟨gx, 0, none⟩)]] w (SaidExpr gx w (exprX s.data.toList)) := by
  have hwd := lexWords_any s w
  have Hx := Lib.hid hx
  unfold WordsSaid at hwd
  rw [szl] at hwd
  rcases Nat.lt_or_ge 8000 s.size with h8 | h8
  · simp only [if_pos h8] at hwd
    have e : exprX s.data.toList = (ex0, 0, 5) := textX_long (by rw [szl]; exact h8)
    rw [e]
    have Hwd := Lib.hid hwd
    clear hwd hx h0 h8 e
    go_enter Tryz.func14, Tryz.ntmps14
    go_wp2_with (fail)
    refine Hwd.out.mono ?_
    rintro e w1 ⟨rfl, hb⟩
    have Hb := Lib.hid hb
    clear hb
    go_wp2
    go_ret2
    exact ⟨rfl, But.of_below Hb.out, fun h => by cases h⟩
  · have h8n : ¬ 8000 < s.size := by omega
    simp only [if_neg h8n] at hwd
    cases hl : lexL s.data.toList with
    | inl a =>
      rw [hl] at hwd
      have e : exprX s.data.toList = (ex0, (a : Int), 12) := textX_inl (by rw [szl]; exact h8n) hl
      rw [e]
      have Hwd := Lib.hid hwd
      clear hwd hx h0 h8 h8n e hl
      go_enter Tryz.func14, Tryz.ntmps14
      go_wp2_with (fail)
      refine Hwd.out.mono ?_
      rintro e w1 ⟨hS, hb⟩
      have hS : e = .returned (.tuple #[.slice none 0 0, .int .i64 a, .int .i64 12]) := hS
      subst hS
      have Hb := Lib.hid hb
      clear hb
      go_wp2
      go_ret2
      exact ⟨rfl, But.of_below Hb.out, fun h => by cases h⟩
    | inr ws =>
      rw [hl] at hwd
      have e : exprX s.data.toList = endX ex0 (rgtE 9000) ⟨ws, s.data.toList.length⟩ (expr1 ⟨ws, s.data.toList.length⟩ PSt.start) := textX_inr (by rw [szl]; exact h8n) hl
      rw [szl] at e
      rw [e]
      have Hwd := Lib.hid hwd
      obtain ⟨W, HW⟩ : ∃ W : Wds, Hid (W = ⟨ws, s.size⟩) := ⟨_, rfl⟩
      rw [← HW.out]
      have hWl : W.l = ws := by rw [HW.out]
      have hWe : W.end_ = s.size := by rw [HW.out]
      have HWl := Lib.hid (And.intro hWl hWe)
      have H8 := Lib.hid h8
      have H0 := Lib.hid h0
      clear hwd hx h0 h8 h8n e hl hWl hWe
      go_enter Tryz.func14, Tryz.ntmps14
      go_wp2_with (fail)
      refine Hwd.out.mono ?_
      rintro e w1 ⟨⟨A, c, rfl, hown, hok, hlen⟩, hb1⟩
      have hon := on_any w.heap.size g0 A c W w1 (by rw [HWl.out.1]; have := H8.out; omega) (by rw [HWl.out.1]; exact hown) (by rw [HWl.out.1]; exact hok) (by rw [HWl.out.2]; have := H8.out; unfold okI; omega) (Nat.lt_of_lt_of_le H0.out.1 hb1.size)
      rw [HWl.out.1, HWl.out.2] at hon
      have H1 := Lib.hid (And.intro hb1 hlen)
      have Hon := Lib.hid hon
      clear hown hok hlen hb1 hon
      go_wp2_with (fail)
      refine Hon.out.mono ?_
      rintro e w2 ⟨gc, gw, rfl, hcu, hgw, hgw2, hgc, hb2⟩
      have hx2 := (Hx.out.as_was (H1.out.1.block _ Hx.out.lt)).as_was (hb2.block _ (Nat.lt_of_lt_of_le Hx.out.lt H1.out.1.size))
      have hal := (Below.refl w2.heap.size w2).alloc (Nat.le_refl _) (.cells #[.pointer (some ⟨gc, 0, none⟩), .int .i64 0, .bool false, .bool false] 82)
      have hz1 := H1.out.1.size
      have hz2 := hb2.size
      have hz0 := H0.out
      have hzx := Hx.out.lt
      have hgcl := hcu.lt
      have hoff := hcu.off
      obtain ⟨gp, Hgp⟩ : ∃ gp, Hid (gp = w2.heap.size) := ⟨_, rfl⟩
      have hP : PAt gp gc gw W PSt.start (w2.alloc (.cells #[.pointer (some ⟨gc, 0, none⟩), .int .i64 0, .bool false, .bool false] 82)) := by
        rw [Hgp.out]
        exact ⟨IsBlk.laid _ _ _, hcu.below hal, by omega, by omega, by simp; omega⟩
      have hx3 := hx2.alloc (.cells #[.pointer (some ⟨gc, 0, none⟩), .int .i64 0, .bool false, .bool false] 82)
      have hb3 := H1.out.1.trans ((hb2.trans (hal.mono hz2)).mono hz1)
      obtain ⟨w3, Hw3⟩ : ∃ w3, Hid (w3 = w2.alloc (.cells #[.pointer (some ⟨gc, 0, none⟩), .int .i64 0, .bool false, .bool false] 82)) := ⟨_, rfl⟩
      rw [← Hw3.out] at hP hx3 hb3
      have hne : gp ≠ gx ∧ gc ≠ gx ∧ gw ≠ gx := by have := Hgp.out; refine ⟨by omega, by omega, ?_⟩; rcases hgw2 with e | e <;> omega
      have hfr : w.heap.size ≤ gp ∧ w.heap.size ≤ gc := by have := Hgp.out; omega
      have hW : W.l.length ≤ 1000000 := by rw [HWl.out.1]; have := H1.out.2; have := H8.out; omega
      have hclo := exprClo_any gp gc gw gx W PSt.start w3 _ hP hx3 rfl hne
      have hat8 : ∀ t : PSt, t.at_ ≤ W.l.length → t.at_ ≤ 8000 := fun t ht => by rw [HWl.out.1] at ht; have := H1.out.2; have := H8.out; omega
      have hlow := fun w' row D (h : ExAt (Fr w3) D w' row (expr1 W PSt.start).1) (ht : (expr1 W PSt.start).2.at_ ≤ W.l.length) => expr_low W PSt.start h (by have := hat8 _ ht; omega)

      have H3 := Lib.hid (And.intro hP (And.intro hb3 (And.intro hne hfr)))
      generalize expr1 W PSt.start = r at *
      obtain ⟨p, t⟩ := r
      simp only at hlow hclo
      have Hclo := Lib.hid hclo
      have Hlow := Lib.hid hlow

      clear hcu hgw hgw2 hgc hb2 hx2 hal hz1 hz2 hz0 hzx hgcl hoff hP hx3 hb3 hne hfr hclo hlow hat8 hW
      go_upto_region 5 with (fail)
      rw [← Hw3.out, ← Hgp.out]
      go_wp2_with (fail)
      refine Hclo.out.mono ?_
      rintro e w4 ⟨rfl, ⟨row, D, hxr, hpr⟩, hP, hB⟩
      obtain ⟨d0, d1, d2, d3, dg⟩ := cells4 hP.blk
      have hpr9 := Hlow.out w4 row D hpr hP.le
      have hB0 : But (fun k => k = gx) w w4 := (But.of_below H3.out.2.1).trans hB (fun i hi => by have := H3.out.2.2.2; rcases hi with e | e | e; exact .inr (by omega); exact .inr (by omega); exact .inl e)
      have H4 := Lib.hid (And.intro hP (And.intro hxr (And.intro hpr9 hB0)))
      clear hpr hpr9 hB hB0 hxr
      cases hov : t.over with
      | true =>
        rw [hov] at d2
        have e : endX ex0 (rgtE 9000) W (p, t) = (ex0, 0, 14) := by unfold endX; rw [if_pos hov]
        have He := Lib.hid e
        clear hov e hP
        go_wp2
        go_ret2
        rw [He.out]
        exact ⟨rfl, H4.out.2.2.2, fun h => by cases h⟩
      | false =>
        rw [hov] at d2
        have hlf := left_any _ gc t.at_ W w4 hP.cu
        have hwo := fun w5 (h5 : PAt gp gc gw W t w5) => word_any _ gc t.at_ W w5 h5.cu
        have Hlf := Lib.hid hlf
        have Hwo := Lib.hid hwo
        clear hlf hwo
        have hbadE : (t.bad || decide (t.at_ < W.l.length)) = true → endX ex0 (rgtE 9000) W (p, t) = (ex0, (W.look t.at_).at_, 12) := fun h => by
          unfold endX
          rw [if_neg (by rw [hov]; decide), if_pos h]
        have hfd : ∀ (a : Int) (b : ByteArray) (c d : Int) (W : World), (Instr.field 36 (.agg #[.int .i64 a, .string b, .int .i64 c, .int .i64 d]) 3).run Tryz.prog W = .ok (.int .i64 d) W := fun _ _ _ _ _ => by kernel_rfl
        cases hbad : t.bad with
        | true =>
          rw [hbad] at d3
          have e := hbadE (by rw [hbad]; rfl)
          have He := Lib.hid e
          generalize hlk : W.look t.at_ = y at *
          obtain ⟨yk, yt, yn, ya⟩ := y
          clear hov hbad e hbadE hP hlk
          simp only [wrow] at Hwo
          go_wp2_with (fail)
          refine (Hwo.out _ H4.out.1).mono ?_
          rintro e w5 ⟨rfl, hb5⟩
          have Hb5 := Lib.hid hb5
          clear hb5
          go_wp2
          go_ret2
          rw [He.out]
          exact ⟨rfl, H4.out.2.2.2.then_below Hb5.out, fun h => by cases h⟩
        | false =>
          rw [hbad] at d3
          rcases Nat.lt_or_ge t.at_ W.l.length with hlt | hge
          · have e := hbadE (by rw [hbad]; simpa using hlt)
            have He := Lib.hid e
            have hpos : (0 : Int) < ((W.l.length - t.at_ : Nat) : Int) := by omega
            generalize W.l.length - t.at_ = left at *
            generalize hlk : W.look t.at_ = y at *
            obtain ⟨yk, yt, yn, ya⟩ := y
            clear hov hbad e hbadE hP hlk hlt
            simp only [wrow] at Hwo
            go_wp2_with (fail)
            refine Hlf.out.mono ?_
            rintro e w5 ⟨rfl, hb5⟩
            have hP5 := H4.out.1.below hb5
            have Hb5 := Lib.hid (And.intro hP5 hb5)
            have hk5 := hP5.blk
            clear d0 d1 d2 d3 dg
            obtain ⟨d0, d1, d2, d3, dg⟩ := cells4 hk5
            clear hb5 hP5 hk5
            go_wp2_with (fail)
            refine (Hwo.out _ Hb5.out.1).mono ?_
            rintro e w6 ⟨rfl, hb6⟩
            have Hb6 := Lib.hid hb6
            clear hb6
            go_wp2
            go_ret2
            rw [He.out]
            exact ⟨rfl, (H4.out.2.2.2.then_below Hb5.out.2).then_below Hb6.out, fun h => by cases h⟩
          · have hz : W.l.length - t.at_ = 0 := by omega
            rw [hz] at Hlf
            have hend : endX ex0 (rgtE 9000) W (p, t) = if rgtE 9000 p then (p, 0, 0) else (ex0, 0, 14) := by
              unfold endX
              rw [if_neg (by rw [hov]; decide), if_neg (by rw [hbad]; simpa using hge)]

            have hrc := fun w5 (h5 : Below w4.heap.size w4 w5) => rightExpr_clo (Fr w3) gx p row w5 (H4.out.2.1.as_was (h5.block _ H4.out.2.1.lt)) (ExAt.below H4.out.2.2.1 h5)

            have Hend := Lib.hid hend
            generalize rgtE 9000 p = q at *
            have Hrc := Lib.hid hrc
            clear hov hbad hbadE hz hrc hP hge hend
            cases q with
            | true =>
              have hend := Hend.out
              rw [if_pos rfl] at hend
              have He := Lib.hid hend
              clear hend
              go_wp2_with (fail)
              refine Hlf.out.mono ?_
              rintro e w5 ⟨rfl, hb5⟩
              have Hb5 := Lib.hid hb5
              clear hb5
              go_wp2_with (fail)
              refine (Hrc.out _ Hb5.out).mono ?_
              rintro e w6 ⟨rfl, hb6⟩
              have Hb6 := Lib.hid (Hb5.out.trans (hb6.mono Hb5.out.size))
              clear hb6
              go_wp2
              go_ret2
              rw [He.out]
              refine ⟨rfl, H4.out.2.2.2.then_below Hb6.out, fun _ => ⟨row, H4.out.2.1.as_was (Hb6.out.block _ H4.out.2.1.lt), ?_⟩⟩
              exact ExAt.conv (fun k (hk : w3.heap.size ≤ k) => by show w.heap.size ≤ k; have := H3.out.2.1.size; omega) (Kept.of_below Hb6.out) 9000 (Nat.le_refl 9000) H4.out.2.2.1
            | false =>
              have hend := Hend.out
              rw [if_neg (by decide)] at hend
              have He := Lib.hid hend
              clear hend
              go_wp2_with (fail)
              refine Hlf.out.mono ?_
              rintro e w5 ⟨rfl, hb5⟩
              have Hb5 := Lib.hid hb5
              clear hb5
              go_wp2_with (fail)
              refine (Hrc.out _ Hb5.out).mono ?_
              rintro e w6 ⟨rfl, hb6⟩
              have Hb6 := Lib.hid (Hb5.out.trans (hb6.mono Hb5.out.size))
              clear hb6
              go_wp2
              go_ret2
              rw [He.out]
              exact ⟨rfl, H4.out.2.2.2.then_below Hb6.out, fun h => by cases h⟩
end Go.Proofs.YtlakeanldbdedaaGreat

namespace Go.Proofs.YtlakeanldbdedaaGreat
open Go.RowKit Go.Afx


theorem ret_Expr3 {fn : Func} {p u v : Tmp} {tmps : Array Value} {w : World} {g : Nat} {t : TypeId} {cs : Array Value} {x y : Value} (h : fn.results = #[.cell p 41, .tmp u, .tmp v]) (hp : tmps.getD p undef = .pointer (some ⟨g, 0, none⟩)) (hk : IsBlk w g t cs) (hz : cs.size = 6) (hv : tmps.getD u undef = x) (hy : tmps.getD v undef = y) : (results fn tmps).run Tryz.prog w = .ok (.tuple #[.agg cs, x, y]) w := by
  have h2 := run_loadVar_row (P := Tryz.prog) w g t 41 cs (0, 0) _ hk Tryz.underlying41 rfl (by rw [hz]; exact sizeEx)
  simp only [results, h]
  have e1 : tmps[p]?.getD undef = .pointer (some ⟨g, 0, none⟩) := by simpa using hp
  have e2 : tmps[u]?.getD undef = x := by simpa using hv
  have e3 : tmps[v]?.getD undef = y := by simpa using hy
  simp [Result.andThen, e1, e2, e3, asAddr, h2]
/-- what a text's answer is -/
def ExprGives (w : World) (x : Ex × Int × Int) (e : Ending) (w' : World) : Prop := (∃ row, e = .returned (.tuple #[.agg row.toArray, .int .i64 x.2.1, .int .i64 x.2.2]) ∧ ExAt (Fr w) 9000 w' row x.1) ∧ Below w.heap.size w w'

theorem ex0_at (F : Nat → Prop) (w : World) : ExAt F 9000 w [.int .i64 0, .int .i64 0, .string ⟨#[]⟩, .string ⟨#[]⟩, .string ⟨#[]⟩, .slice none 0 0] ex0 := ExAt.conv (fun _ h => h) (Kept.refl _ _) 1 (by omega) (leaf_at F w 0 0 nil0 nil0 (by omega) (by omega) okI_0 okS_0 okS_0)

set_option maxRecDepth 100000 in
set_option maxHeartbeats 4000000 in
theorem parseExpr_any (s : ByteArray) (w : World) : Calls Tryz.prog 11 #[.string s] w (ExprGives w (exprX s.data.toList)) := by
  obtain ⟨w1, Hw1⟩ : ∃ w1, Hid (w1 = (w.alloc (.cells zero6 41)).alloc (.cells zero6 41)) := ⟨_, rfl⟩
  have hb1 : Below w.heap.size w w1 := by rw [Hw1.out]; exact ((Below.refl _ _).alloc (Nat.le_refl _) _).alloc (by simp) _
  have hkr : IsBlk w1 w.heap.size 41 zero6 := by rw [Hw1.out]; exact (IsBlk.laid _ _ _).alloc _
  have hkx : IsBlk w1 (w.heap.size + 1) 41 zero6 := by rw [Hw1.out]; exact blk_new (by simp)
  have hsz : w1.heap.size = w.heap.size + 2 := by rw [Hw1.out]; simp
  have hp := parsedExpr_any s (w.heap.size + 1) w.heap.size w1 hkx (by omega)
  have hz := textX_zero ex0 (rgtE 9000) expr1 s.data.toList
  have hz : ((exprX s.data.toList).2.2 = 0 → (exprX s.data.toList).2.1 = 0) ∧ ((exprX s.data.toList).2.2 ≠ 0 → (exprX s.data.toList).1 = ex0) := hz
  generalize exprX s.data.toList = x at *
  obtain ⟨p, at_, er⟩ := x
  simp only at hz
  have Hp := Lib.hid hp
  have Hz := Lib.hid hz
  have Hk := Lib.hid (And.intro hb1 (And.intro hkr hsz))
  clear hp hz hb1 hkr hkx hsz
  go_enter Tryz.func11, Tryz.ntmps11
  go_upto_region 2 with (fail)
  rw [← Hw1.out]
  go_wp2_with (fail)
  refine Hp.out.mono ?_
  rintro e w2 ⟨rfl, hB, hpr⟩
  have hsz := Hk.out.2.2
  have hkr2 := Hk.out.2.1.as_was (hB.block _ Hk.out.2.1.lt (by omega))
  obtain ⟨x0, x1, x2, x3, x4, x5, xl⟩ := cells6 hkr2
  have f2 := hkr2.frozen
  have hb2 : Below w.heap.size w w2 := Hk.out.1.trans (hB.below' (by omega) (fun i hi => by omega))
  have H2 := Lib.hid (And.intro hkr2 hb2)
  have Hpr := Lib.hid hpr
  clear hB hpr hsz hkr2 hb2
  have hlay : ∀ (v0 v1 v2 v3 v4 v5 : Value), Below w.heap.size w (lay6 w2 w.heap.size v0 v1 v2 v3 v4 v5) := fun v0 v1 v2 v3 v4 v5 => H2.out.2.trans ((lay6_but w2 w.heap.size v0 v1 v2 v3 v4 v5).below' H2.out.2.size (fun i hi => by omega))
  have Hlay := Lib.hid hlay
  clear hlay
  rcases Classical.em (er = 0) with he | he
  · have q0 : (er == 0) = true := by rw [beq_iff_eq]; exact he
    have q1 : (er != 0) = false := by simp [he]
    obtain ⟨row, hkx, hpr⟩ := Hpr.out he
    have hat := Hz.out.1 he
    subst hat
    subst he
    have hprw := hpr

    obtain ⟨A, m, c, rfl⟩ := ex_row6 hprw

    obtain ⟨y0, y1, y2, y3, y4, y5, yl⟩ := cells6 hkx
    have Hpr2 := Lib.hid hpr

    clear hpr hkx q0 q1
    go_wp2
    rw [lay6_eq]
    refine bodyPost_ret (ret_Expr3 Tryz.results11 rfl (lay6_blk _ _ _ _ _ _ H2.out.1) rfl rfl rfl) rfl ⟨⟨_, rfl, ?_⟩, Hlay.out _ _ _ _ _ _⟩
    exact ExAt.conv (fun k (hk : w1.heap.size ≤ k) => by show w.heap.size ≤ k; have := Hk.out.2.2; omega) (Kept.of_but (lay6_but w2 w.heap.size _ _ _ _ _ _) fun k (hk : w1.heap.size ≤ k) e => by have := Hk.out.2.2; omega) 9000 (Nat.le_refl 9000) Hpr2.out
  · have q1 : (er != 0) = true := by simpa using he
    have q0 : (er == 0) = false := by simpa using he
    have hz := Hz.out.2 he
    subst hz
    clear he
    go_wp2
    rw [lay6_eq]
    exact bodyPost_ret (ret_Expr3 Tryz.results11 rfl (lay6_blk _ _ _ _ _ _ H2.out.1) rfl rfl rfl) rfl ⟨⟨_, rfl, ex0_at _ _⟩, Hlay.out _ _ _ _ _ _⟩
end Go.Proofs.YtlakeanldbdedaaGreat

namespace Go.Proofs.YtlakeanldbdedaaGreat
open Go.RowKit Go.Afx

def wrapN : Nat → List UInt8 → List UInt8
  | 0, s => s
  | n + 1, s => wrapT (wrapN n s)
abbrev kOpen : Int × ByteArray × Int := (0, str [40], 0)
abbrev kClose : Int × ByteArray × Int := (0, str [41], 0)
theorem lexB_wrapN {L : List UInt8} {ks : List (Int × ByteArray × Int)} (h : LexB L ks) : ∀ m, LexB (wrapN m L) (List.replicate m kOpen ++ ks ++ List.replicate m kClose) := by
  intro m
  induction m with
  | zero => simpa [wrapN] using h
  | succ m ih =>
    have h1 := lexB_wrap ih
    have e : (0, str [40], 0) :: (List.replicate m kOpen ++ ks ++ List.replicate m kClose) ++ [(0, str [41], 0)] = List.replicate (m + 1) kOpen ++ ks ++ List.replicate (m + 1) kClose := by
      rw [List.replicate_succ, List.replicate_succ']
      simp
    rw [e] at h1
    exact h1
theorem key_look {W : Wds} {i : Nat} {k : Int × ByteArray × Int} (h : (W.l.map key)[i]? = some k) : (W.look i).kind = k.1 ∧ (W.look i).text = k.2.1 ∧ (W.look i).n = k.2.2 := by
  rw [List.getElem?_map] at h
  cases hx : W.l[i]? with
  | none => rw [hx] at h; cases h
  | some x =>
    rw [hx] at h
    rw [look_in hx]
    have e : key x = k := by simpa using h
    rw [← e]
    exact ⟨rfl, rfl, rfl⟩
theorem look_key {W : Wds} {i : Nat} (h : i < W.l.length) : (W.l.map key)[i]? = some ((W.look i).kind, (W.look i).text, (W.look i).n) := by
  rw [List.getElem?_map, List.getElem?_eq_getElem h, look_in (List.getElem?_eq_getElem h)]
  rfl
theorem wrap2_of {W W2 : Wds} {m : Nat} (h : W2.l.map key = List.replicate m kOpen ++ W.l.map key ++ List.replicate m kClose) : Wrap2 W W2 m := by
  have hl : W2.l.length = W.l.length + m + m := by
    have := congrArg List.length h
    simp at this
    omega
  refine ⟨fun i hi => ?_, fun i hi => ?_, fun j hj => ?_, hl⟩
  · refine key_look (k := ((W.look i).kind, (W.look i).text, (W.look i).n)) ?_
    rw [h, List.getElem?_append_left (by simp; omega), List.getElem?_append_right (by simp), List.length_replicate, Nat.add_sub_cancel]
    exact look_key hi
  · have := key_look (W := W2) (i := i) (k := kOpen) (by
      rw [h, List.getElem?_append_left (by simp; omega), List.getElem?_append_left (by simp; omega), List.getElem?_replicate, if_pos hi])
    exact ⟨this.1, this.2.1⟩
  · have := key_look (W := W2) (i := W.l.length + m + j) (k := kClose) (by
      rw [h, List.getElem?_append_right (by simp; omega), List.getElem?_replicate, if_pos (by simp; omega)])
    exact ⟨this.1, this.2.1⟩
/-- where an expression is parsed: what was run -/
theorem exprX_zero {L : List UInt8} (h : (exprX L).2.2 = 0) : ¬ 8000 < L.length ∧ ∃ ws, lexL L = .inr ws ∧ (expr1 ⟨ws, L.length⟩ PSt.start).2.over = false ∧ (expr1 ⟨ws, L.length⟩ PSt.start).2.bad = false ∧ ws.length ≤ (expr1 ⟨ws, L.length⟩ PSt.start).2.at_ ∧ rgtE 9000 (expr1 ⟨ws, L.length⟩ PSt.start).1 = true ∧ exprX L = ((expr1 ⟨ws, L.length⟩ PSt.start).1, 0, 0) := by
  by_cases h8 : 8000 < L.length
  · unfold exprX at h; rw [textX_long h8] at h; cases h
  · refine ⟨h8, ?_⟩
    cases hl : lexL L with
    | inl a => unfold exprX at h; rw [textX_inl h8 hl] at h; cases h
    | inr ws =>
      refine ⟨ws, rfl, ?_⟩
      have e : exprX L = endX ex0 (rgtE 9000) ⟨ws, L.length⟩ (expr1 ⟨ws, L.length⟩ PSt.start) := textX_inr h8 hl
      rw [e] at h ⊢
      generalize expr1 ⟨ws, L.length⟩ PSt.start = r at *
      unfold endX at h ⊢
      cases ho : r.2.over with
      | true => rw [ho, if_pos rfl] at h; cases h
      | false =>
        rw [ho, if_neg (by decide)] at h
        rw [if_neg (by decide)]
        cases hb : (r.2.bad || decide (r.2.at_ < ws.length)) with
        | true => simp only [hb, if_true] at h; cases h
        | false =>
          simp only [hb, Bool.false_eq_true, if_false] at h ⊢
          simp only [Bool.or_eq_false_iff, decide_eq_false_iff_not] at hb
          cases hr : rgtE 9000 r.1 with
          | false => rw [hr, if_neg (by decide)] at h; cases h
          | true => exact ⟨by first | rfl | trivial, hb.1, by omega, by first | rfl | trivial, by first | rfl | trivial⟩
theorem exprX_loose {L : List UInt8} {m : Nat} (hm : m ≤ 60) (hlen : (wrapN m L).length ≤ 8000) (h : (exprX L).2.2 = 0) : (exprX (wrapN m L)).2.2 = 14 ∨ exprX (wrapN m L) = exprX L := by
  obtain ⟨_, ws, hl, ho, hb, ha, hr, hx⟩ := exprX_zero h
  obtain ⟨ws2, hl2, hk⟩ := lexL_of (lexB_wrapN (lexB_of hl) m)
  have e2 : exprX (wrapN m L) = endX ex0 (rgtE 9000) ⟨ws2, (wrapN m L).length⟩ (expr1 ⟨ws2, (wrapN m L).length⟩ PSt.start) := textX_inr (by omega) hl2
  have hw : Wrap2 ⟨ws, L.length⟩ ⟨ws2, (wrapN m L).length⟩ m := wrap2_of hk
  have ha2 : (expr1 ⟨ws, L.length⟩ PSt.start).2.at_ = ws.length := by
    have h1 := run_moved (self_moved ⟨ws, L.length⟩) (gExpr (Wds.fuel ⟨ws, L.length⟩) (Wds.fuel ⟨ws, L.length⟩) : Pg false Ex) PSt.start PSt.start (start_rel ⟨ws, L.length⟩ 0 (by omega)) (by rw [← expr1_run _ (Nat.le_refl _)]; exact hb)
    rw [← expr1_run _ (Nat.le_refl _)] at h1
    rcases h1 with ⟨_, h1⟩ | h1
    · have := h1.le
      show _ = ws.length
      have h2 : (expr1 ⟨ws, L.length⟩ PSt.start).2.at_ ≤ ws.length := this
      omega
    · rw [h1.2] at hb; cases hb
  have hwr := wrapped hw hm hb ho ha2 0 (Nat.zero_le _) _ rfl
  have e3 : exprP ⟨ws2, (wrapN m L).length⟩ (Wds.fuel ⟨ws2, (wrapN m L).length⟩) ⟨0, (0 : Nat), false, false⟩ = expr1 ⟨ws2, (wrapN m L).length⟩ PSt.start := rfl
  have hl3 : ws2.length = ws.length + m + m := hw.len
  rw [e2, hx]
  have hwr : Esc (expr1 ⟨ws2, (wrapN m L).length⟩ PSt.start).2 ∨ ((expr1 ⟨ws2, (wrapN m L).length⟩ PSt.start).1 = (expr1 ⟨ws, L.length⟩ PSt.start).1 ∧ (expr1 ⟨ws2, (wrapN m L).length⟩ PSt.start).2.bad = false ∧ (expr1 ⟨ws2, (wrapN m L).length⟩ PSt.start).2.over = false ∧ (expr1 ⟨ws2, (wrapN m L).length⟩ PSt.start).2.at_ + 0 = ws.length + m + m) := hwr
  generalize expr1 ⟨ws2, (wrapN m L).length⟩ PSt.start = r2 at *
  rcases hwr with hE | ⟨h1, h2, h3, h4⟩
  · left
    unfold endX
    rw [if_pos hE.1]
  · right
    unfold endX
    rw [if_neg (by rw [h3]; decide), if_neg (by rw [h2]; simp; omega), h1, hr, if_pos rfl]
end Go.Proofs.YtlakeanldbdedaaGreat

namespace Go.Proofs.YtlakeanldbdedaaGreat
open Go.RowKit Go.Afx

theorem wrap_size (s : ByteArray) : (⟨#[32, 40, 32]⟩ ++ s ++ ⟨#[32, 10, 41, 32, 47, 47, 32, 41, 32, 109, 111, 114, 101, 10]⟩ : ByteArray).size = s.size + 17 := by
  rw [ByteArray.size_append, ByteArray.size_append, show (⟨#[32, 40, 32]⟩ : ByteArray).size = 3 from rfl, show (⟨#[32, 10, 41, 32, 47, 47, 32, 41, 32, 109, 111, 114, 101, 10]⟩ : ByteArray).size = 14 from rfl]
  omega
theorem wrap_list (s : ByteArray) : (⟨#[32, 40, 32]⟩ ++ s ++ ⟨#[32, 10, 41, 32, 47, 47, 32, 41, 32, 109, 111, 114, 101, 10]⟩ : ByteArray).data.toList = wrapT s.data.toList := by
  simp [wrapT, tailT]
set_option maxRecDepth 100000 in
set_option maxHeartbeats 4000000 in
theorem parseLoose_walk (s : ByteArray) (x : Nat) (hx : x < 256) (w : World) : Calls Tryz.prog 6 #[.string s, .int .u8 x] w fun y w' => y = .returned (.bool true) ∧ Below w.heap.size w w' := by
  have Haw := Lib.hid awakeR_any
  rcases Nat.lt_or_ge 1000 s.size with h10 | h10
  · have h11 : (1000 : Int) < (s.size : Int) := by omega
    clear h10
    go_enter Tryz.func6, Tryz.ntmps6
    go_wp2_with (fail)
    refine (Haw.out _).mono ?_
    rintro e w4 ⟨rfl, hb4⟩
    have Hb4 := Lib.hid hb4
    clear hb4
    go_wp2
    go_ret
    exact ⟨rfl, Hb4.out⟩
  · have h11 : ¬ (1000 : Int) < (s.size : Int) := by omega
    have hp := parseExpr_any s w
    have Hp := Lib.hid hp
    clear hp
    by_cases he : (exprX s.data.toList).2.2 = 0
    · have hex : exprX s.data.toList = ((exprX s.data.toList).1, 0, 0) := by
        obtain ⟨_, ws, _, _, _, _, _, h⟩ := exprX_zero he
        rw [h]
      have hlo := fun m (hm : m ≤ 60) (hl : (wrapN m s.data.toList).length ≤ 8000) => exprX_loose hm hl he
      generalize exprX s.data.toList = q at *
      obtain ⟨e0, at_, er⟩ := q
      simp only [Prod.mk.injEq, true_and] at hex
      obtain ⟨rfl, rfl⟩ := hex
      have Hlo := Lib.hid hlo
      clear hlo he
      go_enter Tryz.func6, Tryz.ntmps6
      go_wp2_with (fail)
      refine Hp.out.mono ?_
      rintro e w2 ⟨⟨row, rfl, hpr⟩, hb⟩
      obtain ⟨A, m, c, rfl⟩ := ex_row6 hpr
      have hal := (Below.refl w2.heap.size w2).alloc (Nat.le_refl _) (.cells #[.int .i64 e0.op, .int .i64 e0.n, .string e0.s, .string e0.name, .string e0.src, .slice A m c] 41)
      have hk : IsBlk (w2.alloc (.cells #[.int .i64 e0.op, .int .i64 e0.n, .string e0.s, .string e0.name, .string e0.src, .slice A m c] 41)) w2.heap.size 41 #[.int .i64 e0.op, .int .i64 e0.n, .string e0.s, .string e0.name, .string e0.src, .slice A m c] := IsBlk.laid _ _ _
      obtain ⟨w3, Hw3⟩ : ∃ w3, Hid (w3 = w2.alloc (.cells #[.int .i64 e0.op, .int .i64 e0.n, .string e0.s, .string e0.name, .string e0.src, .slice A m c] 41)) := ⟨_, rfl⟩
      rw [← Hw3.out] at hal hk
      have H3 := Lib.hid (And.intro (ExAt.below hpr hal) (And.intro hk (hb.trans (hal.mono hb.size))))
      obtain ⟨g, Hg⟩ : ∃ g, Hid (g = w2.heap.size) := ⟨_, rfl⟩
      clear hpr hal hk hb
      go_upto_region 6 with (fail)
      rw [← Hw3.out, ← Hg.out]
      rw [← Hg.out] at H3
      go_wp2
      go_loop [8, 9] (fun t i => ∃ (k : Nat) (T : ByteArray), k ≤ x % 4 ∧ i = .int .i64 k ∧ t = .string T ∧ Hid (T.data.toList = wrapN k s.data.toList) ∧ T.size = s.size + 17 * k) (fun _ i => x % 4 - (intOf i).toNat)
      case atStart => exact ⟨0, s, Nat.zero_le _, rfl, rfl, Lib.hid rfl, rfl⟩
      case round =>
        obtain ⟨k, T, hk, rfl, rfl, HT, hsz⟩ := hrel
        have hx4 : x % 4 < 4 := Nat.mod_lt _ (by decide)
        rcases Nat.lt_or_ge k (x % 4) with hlt | hge
        · go_wp2
          go_round
          case rel => exact ⟨k + 1, _, by omega, by go_num, rfl, Lib.hid (by rw [wrap_list, HT.out]; rfl), by rw [wrap_size, hsz]; omega⟩
          case measure => simp [intOf]; omega
        · have hkm : k = x % 4 := by omega
          have hlen : (wrapN k s.data.toList).length ≤ 8000 := by rw [← HT.out, szl]; omega
          have hq := Hlo.out k (by omega) hlen
          have hp2 := parseExpr_any T w3
          rw [HT.out] at hp2
          generalize exprX (wrapN k s.data.toList) = q2 at *
          rcases hq with hq | hq
          · obtain ⟨e2, at2, er2⟩ := q2
            have hq : er2 = 14 := hq
            subst hq
            have Hp2 := Lib.hid hp2
            clear hp2 hlen hkm
            go_wp2_with (fail)
            refine Hp2.out.mono ?_
            rintro e w4 ⟨⟨row2, rfl, hpr2⟩, hb4⟩
            obtain ⟨A2, m2, c2, rfl⟩ := ex_row6 hpr2
            have hal := (Below.refl w4.heap.size w4).alloc (Nat.le_refl _) (.cells #[.int .i64 e2.op, .int .i64 e2.n, .string e2.s, .string e2.name, .string e2.src, .slice A2 m2 c2] 41)
            have Hb4 := Lib.hid (H3.out.2.2.trans ((hb4.trans (hal.mono hb4.size)).mono H3.out.2.2.size))
            clear hb4 hal hpr2
            go_wp2_with (fail)
            refine (Haw.out _).mono ?_
            rintro e w5 ⟨rfl, hb5⟩
            have Hb5 := Lib.hid (Hb4.out.trans (hb5.mono Hb4.out.size))
            clear hb5
            go_wp2
            go_ret
            exact ⟨rfl, Hb5.out⟩
          · subst hq
            have Hp2 := Lib.hid hp2
            clear hp2 hlen hkm
            go_wp2_with (fail)
            refine Hp2.out.mono ?_
            rintro e w4 ⟨⟨row2, rfl, hpr2⟩, hb4⟩
            obtain ⟨A2, m2, c2, rfl⟩ := ex_row6 hpr2
            have hal := (Below.refl w4.heap.size w4).alloc (Nat.le_refl _) (.cells #[.int .i64 e0.op, .int .i64 e0.n, .string e0.s, .string e0.name, .string e0.src, .slice A2 m2 c2] 41)
            have hk2 : IsBlk (w4.alloc (.cells #[.int .i64 e0.op, .int .i64 e0.n, .string e0.s, .string e0.name, .string e0.src, .slice A2 m2 c2] 41)) w4.heap.size 41 #[.int .i64 e0.op, .int .i64 e0.n, .string e0.s, .string e0.name, .string e0.src, .slice A2 m2 c2] := IsBlk.laid _ _ _
            have hk1 := (H3.out.2.1.as_was (hb4.block _ H3.out.2.1.lt)).alloc (.cells #[.int .i64 e0.op, .int .i64 e0.n, .string e0.s, .string e0.name, .string e0.src, .slice A2 m2 c2] 41)
            have h34 := hb4.trans (hal.mono hb4.size)
            have hsm := oneE_any (Fr w) (Fr w3) 9000 e0 _ _ _ (ExAt.below H3.out.1 h34) (ExAt.below hpr2 hal)
            have Hb4 := Lib.hid (H3.out.2.2.trans (h34.mono H3.out.2.2.size))
            obtain ⟨w5, Hw5⟩ : ∃ w5, Hid (w5 = w4.alloc (.cells #[.int .i64 e0.op, .int .i64 e0.n, .string e0.s, .string e0.name, .string e0.src, .slice A2 m2 c2] 41)) := ⟨_, rfl⟩
            rw [← Hw5.out] at hk2 hk1 hsm Hb4
            have Hsm := Lib.hid hsm
            obtain ⟨y0, y1, y2, y3, y4, y5, yl⟩ := blk6 hk1
            obtain ⟨z0, z1, z2, z3, z4, z5, zl⟩ := blk6 hk2
            clear hb4 hal hpr2 h34 hsm hk1 hk2
            go_upto_region 12 with (fail)
            rw [← Hw5.out]
            go_wp2_with (fail)
            refine Hsm.out.mono ?_
            rintro e w6 ⟨rfl, hb6⟩
            have Hb6 := Lib.hid (Hb4.out.trans (hb6.mono Hb4.out.size))
            clear hb6
            go_wp2_with (fail)
            refine (Haw.out _).mono ?_
            rintro e w7 ⟨rfl, hb7⟩
            have Hb7 := Lib.hid (Hb6.out.trans (hb7.mono Hb6.out.size))
            clear hb7
            go_wp2
            go_ret
            exact ⟨rfl, Hb7.out⟩
    · generalize exprX s.data.toList = q at *
      obtain ⟨e0, at_, er⟩ := q
      have he : er ≠ 0 := he
      have q0 : (er == 0) = false := by simpa using he
      have q1 : (er != 0) = true := by simpa using he
      clear he
      go_enter Tryz.func6, Tryz.ntmps6
      go_wp2_with (fail)
      refine Hp.out.mono ?_
      rintro e w2 ⟨⟨row, rfl, hpr⟩, hb⟩
      obtain ⟨A, m, c, rfl⟩ := ex_row6 hpr
      have hal := (Below.refl w2.heap.size w2).alloc (Nat.le_refl _) (.cells #[.int .i64 e0.op, .int .i64 e0.n, .string e0.s, .string e0.name, .string e0.src, .slice A m c] 41)
      have Hb := Lib.hid (hb.trans (hal.mono hb.size))
      clear hpr hal hb
      go_wp2_with (fail)
      refine (Haw.out _).mono ?_
      rintro e w4 ⟨rfl, hb4⟩
      have Hb4 := Lib.hid (Hb.out.trans (hb4.mono Hb.out.size))
      clear hb4
      go_wp2
      go_ret
      exact ⟨rfl, Hb4.out⟩
end Go.Proofs.YtlakeanldbdedaaGreat
