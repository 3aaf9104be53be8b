/- Parts of this proof, one behind the other: ParN, ParO. -/
import Derived.Test.YtlakeanldbdedaaGreatPr21
import Derived.Test.YtlakeanldbdedaaGreatPr15
namespace Go.Proofs.YtlakeanldbdedaaGreat
open Go.RowKit Go.Afx

set_option maxRecDepth 100000 in
set_option maxHeartbeats 8000000 in
/-- one expression more -/
theorem pExprsStep (gp gc gw gl gb n0 : Nat) (W : Wds) (s : PSt) (w : World) (A : Option Addr) (c D : Nat) (rows : List (List Value)) (xs : List Ex) (h : PAt gp gc gw W s w) (hl : ExsOwn n0 gl w A c rows D xs) (hb : IsBlk w gb 50 #[.pointer (some ⟨gp, 0, none⟩)])
    (hg : gp < n0 ∧ gc < n0 ∧ gw < n0 ∧ gl ≠ gp ∧ gl ≠ gc) (hg2 : gl ≠ gw ∧ gl < n0 ∧ gb < n0 ∧ gb ≠ gp ∧ gb ≠ gc ∧ gb ≠ gl) (hn : n0 ≤ w.heap.size) (hln : xs.length ≤ 1000000000001) :
    Calls Tryz.prog 150 #[.pointer (some ⟨gl, 0, none⟩), .pointer (some ⟨gb, 0, none⟩)] w fun e w' => e = .returned (.tuple #[]) ∧ PAt gp gc gw W (expr1 W s).2 w' ∧ (∃ A' c' rows' D', ExsOwn n0 gl w' A' c' rows' D' (xs ++ [(expr1 W s).1])) ∧ But (On3 gp gc gl n0) w w' := by
  have hd : PAt gp gc gw W s w.drew := h.below (Below.refl _ _).drew
  have hld : ExsOwn n0 gl w.drew A c rows D xs := hl.keep (S := fun _ => False) (But.refl _ _).drew (fun _ hf => hf.elim)
  have hbd : IsBlk w.drew gb 50 #[.pointer (some ⟨gp, 0, none⟩)] := hb
  have c1 : w.cell? ⟨gl, 0, none⟩ = some (.slice A xs.length c) := by have := hl.blk.cell 0; simpa using this
  have c2 : w.cell? ⟨gb, 0, none⟩ = some (.pointer (some ⟨gp, 0, none⟩)) := by have := hb.cell 0; simpa using this
  have l1 := hl.blk.lt
  have l2 := hb.lt
  have hal := (Below.refl w.drew.heap.size w.drew).alloc (Nat.le_refl _) (.cells zrow.toArray 41)
  have Hex := Lib.hid (fun w2 (hW : PAt gp gc gw W s w2) => pExpr1_any gp gc gw W s w2 hW)
  have Hd := Lib.hid hd
  have Hld := Lib.hid hld
  have Hbd := Lib.hid hbd
  have Hal := Lib.hid hal
  have Hg := Lib.hid hg
  have Hg2 := Lib.hid hg2
  have Hn := Lib.hid hn
  have Hln := Lib.hid hln
  generalize expr1 W s = fin at *
  obtain ⟨x, sx⟩ := fin
  have Hex : Hid (∀ w2, PAt gp gc gw W s w2 → Calls Tryz.prog 27 #[.pointer (some ⟨gp, 0, none⟩)] w2 (GivesE gp gc gw W sx x w2)) := Lib.hid Hex.out
  clear hd hld hbd hal hg hg2 hn hln h hl hb
  have hcl : ∀ W2, But (On2 gp gc) w.drew W2 → W2.cell? ⟨gl, 0, none⟩ = some (.slice A xs.length c) ∧ W2.cell? ⟨gb, 0, none⟩ = some (.pointer (some ⟨gp, 0, none⟩)) ∧ gl < W2.heap.size ∧ gb < W2.heap.size ∧ (∀ i, W2.frozen? ⟨gl, i, none⟩ = false) := fun W2 hW => by
    have k1 := Hld.out.blk.as_was (hW.block _ Hld.out.blk.lt (by rintro (e | e); exact Hg.out.2.2.2.1 e; exact Hg.out.2.2.2.2 e))
    have k2 := Hbd.out.as_was (hW.block _ Hbd.out.lt (by rintro (e | e); exact Hg2.out.2.2.2.1 e; exact Hg2.out.2.2.2.2.1 e))
    have a1 := k1.cell 0
    have a2 := k2.cell 0
    simp at a1 a2
    exact ⟨a1, a2, k1.lt, k2.lt, k1.frozen⟩
  have Hcl := Lib.hid hcl
  have hwid := Hld.out.wid
  have hrl := Hld.out.len
  have Hwid := Lib.hid (And.intro hwid hrl)
  clear hwid hrl
  have hd1 : PAt gp gc gw W s (w.drew.alloc (.cells zrow.toArray 41)) := Hd.out.below Hal.out
  have Hd1 := Lib.hid hd1
  have hn0 : RowsAt (w.drew.alloc (.cells zrow.toArray 41)) 6 (some ⟨w.heap.size, 0, none⟩) 1 1 [zrow] := RowsAt.lit' _ _ 1 rfl rfl (by simp) rfl (by unfold maxLen; omega)
  have HN0 := Lib.hid hn0
  have hz1 : ∀ r ∈ [zrow], r.length = 6 := by simp
  have hz2 : ∀ r ∈ [zrow], ∀ u ∈ r, u.oneCell' = true := by
    intro r hr u hu
    simp only [List.mem_singleton] at hr
    subst hr
    simp only [List.mem_cons, List.not_mem_nil, or_false] at hu
    rcases hu with rfl | rfl | rfl | rfl | rfl | rfl <;> rfl
  have Hz1 := Lib.hid hz1
  have Hz2 := Lib.hid hz2
  have hmx : xs.length + 1 ≤ maxLen := by have := Hln.out; unfold maxLen; omega
  have hby : (xs.length + 1) * 88 ≤ 140737488355328 := by have := Hln.out; omega
  have Hmx := Lib.hid (And.intro hmx hby)
  have hgz : gp < w.heap.size ∧ gc < w.heap.size := by have := Hg.out; have := Hn.out; omega
  have Hgz := Lib.hid hgz
  have hbx : ∀ w5 Wc w6, But (On2 gp gc) w.drew w5 → Below w5.heap.size w5 Wc → But (fun k => A.map (·.block) = some k) Wc w6 → w6.cell? ⟨gl, 0, none⟩ = some (.slice A xs.length c) ∧ w6.cell? ⟨gb, 0, none⟩ = some (.pointer (some ⟨gp, 0, none⟩)) ∧ gl < w6.heap.size ∧ gb < w6.heap.size ∧ (∀ i, w6.frozen? ⟨gl, i, none⟩ = false) := fun w5 Wc w6 hB hal hbut => by
    have hlow : ∀ k, A.map (·.block) = some k → n0 ≤ k := fun k hk => by
      cases A with
      | none => cases hk
      | some a =>
        have e : a.block = k := by simpa using hk
        subst e
        exact (Hld.out.low a rfl).1
    have k1 := Hld.out.blk.as_was (hB.block _ Hld.out.blk.lt (by rintro (e | e); exact Hg.out.2.2.2.1 e; exact Hg.out.2.2.2.2 e))
    have k2 := Hbd.out.as_was (hB.block _ Hbd.out.lt (by rintro (e | e); exact Hg2.out.2.2.2.1 e; exact Hg2.out.2.2.2.2.1 e))
    have k3 := k1.as_was (hal.block _ k1.lt)
    have k4 := k2.as_was (hal.block _ k2.lt)
    have k5 := k3.as_was (hbut.block _ k3.lt (fun e => by have := hlow _ e; have := Hg2.out; omega))
    have k6 := k4.as_was (hbut.block _ k4.lt (fun e => by have := hlow _ e; have := Hg2.out; omega))
    have a1 := k5.cell 0
    have a2 := k6.cell 0
    simp at a1 a2
    exact ⟨a1, a2, k5.lt, k6.lt, k5.frozen⟩
  have Hbx2 := Lib.hid hbx
  have hkk : ∀ w5 Wc w6, But (On2 gp gc) w.drew w5 → Below w5.heap.size w5 Wc → But (fun k => A.map (·.block) = some k) Wc w6 → IsBlk w6 gl 39 #[.slice A xs.length c] := fun w5 Wc w6 hB hal hbut => by
    have hlow : ∀ k, A.map (·.block) = some k → n0 ≤ k := fun k hk => by
      cases A with
      | none => cases hk
      | some a =>
        have e : a.block = k := by simpa using hk
        subst e
        exact (Hld.out.low a rfl).1
    have k1 := Hld.out.blk.as_was (hB.block _ Hld.out.blk.lt (by rintro (e | e); exact Hg.out.2.2.2.1 e; exact Hg.out.2.2.2.2 e))
    have k3 := k1.as_was (hal.block _ k1.lt)
    exact k3.as_was (hbut.block _ k3.lt (fun e => by have := hlow _ e; have := Hg2.out; omega))
  have Hkk := Lib.hid hkk
  clear hkk
  clear hbx
  have hni : (xs.length : Int) < (xs.length : Int) + 1 := by omega
  have hng : gl ≠ gb := fun e => Hg2.out.2.2.2.2.2 e.symm
  have hend : ∀ (w5 Wc w6 : World) (D5 : Nat) (A5 : Option Addr) (m5 c5 g6 c6 : Nat) (a : Act), But (On2 gp gc) w.drew w5 → ExAt (Fr w.drew) D5 w5 [.int .i64 x.op, .int .i64 x.n, .string x.s, .string x.name, .string x.src, .slice A5 m5 c5] x → PAt gp gc gw W sx w5 → Below w5.heap.size w5 Wc →
      w6.ownsRow n0 41 6 (.slice (some ⟨g6, 0, none⟩) (xs.length + 1) c6) (xs.length + 1) (rows ++ [zrow]).flatten → But (fun k => A.map (·.block) = some k) Wc w6 → (∀ a2, (some ⟨g6, 0, none⟩ : Option Addr) = some a2 → A = some a2 ∨ Wc.heap.size ≤ a2.block) → n0 ≤ g6 → a.defers = [] →
      bodyPost Tryz.prog Tryz.f150 (fun e w' => e = .returned (.tuple #[]) ∧ PAt gp gc gw W sx w' ∧ (∃ A' c' rows' D', ExsOwn n0 gl w' A' c' rows' D' (xs ++ [x])) ∧ But (On3 gp gc gl n0) w w') Exit.normal a (((((((w6.setCell ⟨g6, xs.length * 6, none⟩ (.int .i64 x.op)).setCell ⟨g6, xs.length * 6 + 1, none⟩ (.int .i64 x.n)).setCell ⟨g6, xs.length * 6 + 2, none⟩ (.string x.s)).setCell ⟨g6, xs.length * 6 + 3, none⟩ (.string x.name)).setCell ⟨g6, xs.length * 6 + 4, none⟩ (.string x.src)).setCell ⟨g6, xs.length * 6 + 5, none⟩ (.slice A5 m5 c5)).setCell ⟨gl, 0, none⟩ (.slice (some ⟨g6, 0, none⟩) (xs.length + 1) c6)) := by
    intro w5 Wc w6 D5 A5 m5 c5 g6 c6 a hB5 hx5 hP5 hal5 hown6 hbut6 hf6 r1 hdef
    have hn2 : n0 ≤ w.drew.heap.size := Hn.out
    have hG := Grown.late Hld.out Hg.out hn2 hB5 hx5 hP5 hal5 hown6 hbut6 hf6
    have hkg := Hkk.out _ _ _ hB5 hal5 hbut6
    have hend := ExsOwn.grown hG hkg rfl Hg.out ⟨Hg2.out.1, Hg2.out.2.1⟩ Hwid.out.1 Hwid.out.2 r1
    rw [lay6At_eq]
    refine bodyPost_end (results_none rfl _ _ _) hdef ?_
    exact ⟨rfl, hend.1, hend.2.1, ((But.refl (On3 gp gc gl n0) w).drew).trans' hend.2.2⟩
  have Hend := Lib.hid hend
  clear hend
  clear hcl hd1 hn0 hz1 hz2 hmx hby hgz
  go_enter Tryz.func150, Tryz.ntmps150
  go_region_law (first
    | (go_simp; go_at_call 27; refine (Hex.out _ (by first | with_reducible exact Hd.out | exact Hd1.out)).mono ?_; rintro e5 w5 ⟨row5, D5, rfl, hx5, hP5, hB5⟩; have hB5' : But (On2 gp gc) w.drew w5 := (by first | with_reducible exact hB5 | exact (But.of_below Hal.out).trans' hB5); have hx5' : ExAt (Fr w.drew) D5 w5 row5 x := (by first | with_reducible exact hx5 | exact ExAt.conv (fun k hk => Nat.le_trans Hal.out.size hk) (Kept.refl _ _) D5 (Nat.le_refl _) hx5); obtain ⟨A5, m5, c5, rfl⟩ := ex_row6 hx5; obtain ⟨t1, t2, t3, t4, t5⟩ := Hcl.out _ hB5'; have hO5 := own_but Hld.out.own hB5' (fun g hg e => by (have h1 := (Hld.out.own.lt g hg).1; have := Hg.out; rcases e with e | e <;> omega)); have hal5 := (Below.refl w5.heap.size w5).alloc (Nat.le_refl _) (.cells zrow.toArray 41))
    | (refine stepAppP (base := n0) (xs := rows) (news := [zrow]) rfl rfl tyExp rfl (by first | with_reducible exact hO5 | exact own_below hO5 hal5) rfl (by first | exact RowsAt.lit' _ _ 1 rfl rfl Hz1.out rfl (by unfold maxLen; omega) | exact RowsAt.but HN0.out hB5 (fun a ha _ hs => by (cases ha; have := Hgz.out; rcases hs with e | e <;> (simp only at e; omega)))) Hz1.out Hz2.out Hmx.out.1 Hmx.out.2 (by (have := Hn.out; have h1 := hB5'.size; first | (simp only [World.drew] at h1; omega) | (simp only [World.drew] at h1; simp; omega))) ?_; intro A6 c6 w6 hown6 hbut6 hf6; obtain ⟨g6, rfl, r1, r2, r3, r4, r5, r6, r7, r8, r9, r10⟩ := own_tail hown6 Hwid.out.1 Hwid.out.2; obtain ⟨u1, u2, u3, u4, u5⟩ := Hbx2.out _ _ _ hB5' (by first | with_reducible exact hal5 | exact Below.refl _ _) hbut6; have e1 : g6 ≠ gl := (by (have := Hg2.out; omega)); have e2 : gl ≠ g6 := (by (have := Hg2.out; omega))))
  all_goals
    try rw [lay_swap e1]
    with_reducible exact Hend.out _ _ _ _ _ _ _ _ _ _ hB5' hx5' hP5 (by first | with_reducible exact hal5 | exact Below.refl _ _) hown6 hbut6 hf6 r1 rfl
end Go.Proofs.YtlakeanldbdedaaGreat

namespace Go.Proofs.YtlakeanldbdedaaGreat
open Go.RowKit Go.Afx

theorem listP_go {α : Type} {W : Wds} {one : PSt → α × PSt} {f : Nat} {l : List α} {s : PSt} : listP W one (f + 1) l s = if (mayP W (str [44]) s).1 then listP W one f (l ++ [(one (mayP W (str [44]) s).2).1]) (one (mayP W (str [44]) s).2).2 else (l, s) := rfl
theorem on3_on2 {gp gc gl n0 : Nat} {w w' : World} (h : But (On2 gp gc) w w') : But (On3 gp gc gl n0) w w' := h.mono fun i hi => .inl (by rcases hi with e | e; exact .inl e; exact .inr (.inl e))
set_option maxRecDepth 100000 in
set_option maxHeartbeats 4000000 in
theorem pList_exprs (gp gc gw gl gb n0 : Nat) (W : Wds) (s : PSt) (w : World) (h : PAt gp gc gw W s w) (hl : ExsOwn n0 gl w none 0 [] 0 []) (hb : IsBlk w gb 50 #[.pointer (some ⟨gp, 0, none⟩)])
    (hg : gp < n0 ∧ gc < n0 ∧ gw < n0 ∧ gl ≠ gp ∧ gl ≠ gc) (hg2 : gl ≠ gw ∧ gl < n0 ∧ gb < n0 ∧ gb ≠ gp ∧ gb ≠ gc ∧ gb ≠ gl) (hn : n0 ≤ w.heap.size) :
    Calls Tryz.prog 42 #[.pointer (some ⟨gp, 0, none⟩), .func (.func 150) #[] #[.pointer (some ⟨gl, 0, none⟩), .pointer (some ⟨gb, 0, none⟩)]] w fun e w' => e = .returned (.tuple #[]) ∧ PAt gp gc gw W (exprsP W s).2 w' ∧ (∃ A' c' rows' D', ExsOwn n0 gl w' A' c' rows' D' (exprsP W s).1) ∧ But (On3 gp gc gl n0) w w' := by
  have hmax := h.cu.max
  have Hst := Lib.hid (fun s' w2 A c D rows xs (hW : PAt gp gc gw W s' w2) (hL : ExsOwn n0 gl w2 A c rows D xs) (hB : But (On3 gp gc gl n0) w w2) (hln : xs.length ≤ 1000000000001) =>
    pExprsStep gp gc gw gl gb n0 W s' w2 A c D rows xs hW hL (hb.as_was (hB.block _ hb.lt (by rintro (e | e | e | e) <;> omega))) hg hg2 (Nat.le_trans hn hB.size) hln)
  have Hmay := Lib.hid (fun s' w2 (hW : PAt gp gc gw W s' w2) => pMay_any gp gc gw W s' (str [44]) w2 hW)
  have hfin : exprsP W s = listP W (expr1 W) (W.l.length + 1) [(expr1 W s).1] (expr1 W s).2 := rfl
  generalize exprsP W s = fin at *
  have Hfin := Lib.hid hfin
  have H0 := Lib.hid (And.intro h hl)
  have Hg := Lib.hid (And.intro hg hg2)
  have Hmax := Lib.hid hmax
  clear h hl hb hg hg2 hn hfin hmax
  go_enter Tryz.func42, Tryz.ntmps42
  go_wp2_with (fail)
  refine (Hst.out s w none 0 0 [] [] H0.out.1 H0.out.2 (But.refl _ _) (by simp)).mono ?_
  rintro e w2 ⟨rfl, hP, hL, hB⟩
  have H2 := Lib.hid (And.intro hP (And.intro hL hB))
  clear hP hL hB
  go_wp2
  go_loopw [] (fun wr => ∃ (s' : PSt) (xs : List Ex) (k : Nat), PAt gp gc gw W s' wr ∧ (∃ A' c' rows' D', ExsOwn n0 gl wr A' c' rows' D' xs) ∧ But (On3 gp gc gl n0) w wr ∧ Hid (fin = listP W (expr1 W) k xs s') ∧ Hid (Fit W k s' ∧ 1 ≤ k ∧ xs.length ≤ s'.at_ + 1)) (fun wr => W.l.length - atOf wr gc)
  case atStart => exact ⟨_, _, _, H2.out.1, H2.out.2.1, H2.out.2.2, Hfin, Lib.hid ⟨.inr (by omega), by omega, by simp⟩⟩
  case round =>
    obtain ⟨s', xs, k, hP, hL, hB, HF, HS⟩ := hrel
    obtain ⟨hfit, hk1, hxl⟩ := HS.out
    obtain ⟨k, rfl⟩ : ∃ k', k = k' + 1 := ⟨k - 1, by omega⟩
    have hle := hP.le
    have hat0 := atOf_eq hP
    have Hat0 := Lib.hid hat0
    have hm := Hmay.out s' wr hP
    have hgo := HF.out
    rw [listP_go] at hgo
    have H := Lib.hid (And.intro hP (And.intro hL hB))
    have Hle := Lib.hid (And.intro hfit (And.intro hxl hle))
    rcases may_cases W (str [44]) s' with hc | ⟨hc, hbad, hat⟩
    · rw [hc] at hm hgo
      simp only [Bool.false_eq_true, if_false] at hgo
      subst hgo
      simp only [str] at hm
      have Hm := Lib.hid hm
      clear hm hc hP hL hB hfit hk1 hxl hle hat0
      go_wp2_with (fail)
      refine Hm.out.mono ?_
      rintro e3 w3 ⟨rfl, hP, hB⟩
      have hB3 := H.out.2.2.trans' (on3_on2 (gl := gl) (n0 := n0) hB)
      obtain ⟨A, c, rows, D, hL⟩ := H.out.2.1
      have hL3 := hL.on2 hB ⟨Hg.out.1.1, Hg.out.1.2.1, Hg.out.1.2.2.2⟩
      have H3 := Lib.hid (And.intro hP (And.intro (⟨A, c, rows, D, hL3⟩ : ∃ A' c' rows' D', ExsOwn n0 gl w3 A' c' rows' D' xs) hB3))
      clear hP hB hB3 hL hL3
      go_wp2
      refine bodyPost_end (results_none rfl _ _ _) rfl ?_
      exact ⟨rfl, H3.out.1, H3.out.2.1, H3.out.2.2⟩
    · rw [hc] at hm hgo
      simp only [if_true] at hgo
      simp only [str] at hm
      have Hm := Lib.hid hm
      have Hgo := Lib.hid hgo
      have Hlt := Lib.hid (And.intro hbad hat)
      clear hm hc hP hL hB hfit hk1 hxl hle hat0 hgo hbad hat
      go_wp2_with (fail)
      refine Hm.out.mono ?_
      rintro e3 w3 ⟨rfl, hP, hB⟩
      have hB3 := H.out.2.2.trans' (on3_on2 (gl := gl) (n0 := n0) hB)
      obtain ⟨A, c, rows, D, hL⟩ := H.out.2.1
      have hL3 := hL.on2 hB ⟨Hg.out.1.1, Hg.out.1.2.1, Hg.out.1.2.2.2⟩
      have Hs := Lib.hid (Hst.out s'.on w3 A c D rows xs hP hL3 hB3 (by have := Hle.out; have := Hmax.out; omega))
      have HB3 := Lib.hid hB3
      clear hP hB hB3 hL hL3
      go_wp2_with (fail)
      refine Hs.out.mono ?_
      rintro e4 w4 ⟨rfl, hP, hL, hB⟩
      have hup := up_expr1 W s'.on
      have hm4 : W.l.length - atOf w4 gc < W.l.length - atOf wr gc := by
        rw [atOf_eq hP, Hat0.out]
        have h1 := hup.1
        have h2 : s'.on.at_ = s'.at_ + 1 := rfl
        have := Hlt.out.2
        omega
      have hfit4 : Fit W k (expr1 W s'.on).2 ∧ 1 ≤ k ∧ (xs ++ [(expr1 W s'.on).1]).length ≤ (expr1 W s'.on).2.at_ + 1 := by
        have h1 := hup.1
        have h2 : s'.on.at_ = s'.at_ + 1 := rfl
        have h3 := Hle.out
        have h4 : W.l.length < s'.at_ + (k + 1) := h3.1.elim (fun e => by rw [Hlt.out.1] at e; cases e) id
        have h5 := Hlt.out.2
        refine ⟨(Fit.on h3.1).ge hup, by omega, ?_⟩
        simp
        omega
      have H4 := Lib.hid (And.intro hP (And.intro hL (HB3.out.trans' hB)))
      have Hm4 := Lib.hid hm4
      have Hf4 := Lib.hid hfit4
      clear hP hL hB hup hm4 hfit4
      go_wp2
      go_roundw
      case rel => exact ⟨_, _, k, H4.out.1, H4.out.2.1, H4.out.2.2, Hgo, Hf4⟩
      case measure => exact Hm4.out
set_option maxHeartbeats 1000000 in
theorem pExprs_any (gp gc gw : Nat) (W : Wds) (s : PSt) (w : World) (h : PAt gp gc gw W s w) :
    Calls Tryz.prog 142 #[.pointer (some ⟨gp, 0, none⟩)] w fun e w' => ∃ A n c D, e = .returned (.slice A n c) ∧ ExsAt (Fr w) D w' A n c (exprsP W s).1 ∧ PAt gp gc gw W (exprsP W s).2 w' ∧ But (On2 gp gc) w w' := by
  have hz := And.intro h.lt.1 (And.intro h.lt.2 h.wl)
  obtain ⟨w1, Hw1⟩ : ∃ w1, Hid (w1 = (w.alloc (.cells #[.pointer (some ⟨gp, 0, none⟩)] 50)).alloc (.cells #[.slice none 0 0] 39)) := ⟨_, rfl⟩
  have hb1 : Below w.heap.size w w1 := by rw [Hw1.out]; exact ((Below.refl _ _).alloc (Nat.le_refl _) _).alloc (by simp) _
  have hkb : IsBlk w1 w.heap.size 50 #[.pointer (some ⟨gp, 0, none⟩)] := by rw [Hw1.out]; exact (IsBlk.laid _ _ _).alloc _
  have hkl : IsBlk w1 (w.heap.size + 1) 39 #[.slice none 0 0] := by rw [Hw1.out]; exact blk_new (by simp)
  have hsz : w1.heap.size = w.heap.size + 2 := by rw [Hw1.out]; simp
  have hl := pList_exprs gp gc gw (w.heap.size + 1) w.heap.size (w.heap.size + 2) W s w1 (h.below hb1) (ExsOwn.nil_ hkl) hkb (by omega) (by omega) (by omega)
  generalize exprsP W s = fin at *
  have c1 : w1.cell? ⟨w.heap.size, 0, none⟩ = some (.pointer (some ⟨gp, 0, none⟩)) := by have := hkb.cell 0; simpa using this
  have l1 := hkb.lt
  have Hl := Lib.hid hl
  have Hb1 := Lib.hid hb1
  have Hsz := Lib.hid hsz
  clear hl hb1 hkb hkl hsz h hz
  go_enter Tryz.func142, Tryz.ntmps142
  go_upto_region 2 with (fail)
  rw [← Hw1.out]
  go_wp2_with (fail)
  refine Hl.out.mono ?_
  rintro e w2 ⟨rfl, hP, ⟨A, c, rows, D, hL⟩, hB⟩
  have k1 : w2.cell? ⟨w.heap.size + 1, 0, none⟩ = some (.slice A fin.1.length c) := by have := hL.blk.cell 0; simpa using this
  have l2 := hL.blk.lt
  have hx : ExsAt (Fr w) D w2 A fin.1.length c fin.1 := LsAt.conv hL.list (Kept.refl _ _) (fun a _ _ h => by show w.heap.size ≤ _; omega) (fun r x _ hx => ExAt.conv (fun k hk => by show w.heap.size ≤ k; omega) (Kept.refl _ _) D (Nat.le_refl _) hx)
  have hBB : But (On2 gp gc) w w2 := (But.of_below Hb1.out).trans hB (fun i hi => by rcases hi with e | e | e | e; exact .inl (.inl e); exact .inl (.inr e); exact .inr (by omega); exact .inr (by omega))
  have H := Lib.hid (And.intro hx (And.intro hP hBB))
  clear hP hL hB hx hBB
  go_wp2
  go_ret
  exact ⟨A, _, c, D, rfl, H.out.1, H.out.2.1, H.out.2.2⟩
end Go.Proofs.YtlakeanldbdedaaGreat
