/- Parts of this proof, one behind the other: ParN2. -/
import Derived.Test.YtlakeanldbdedaaGreatPr24
namespace Go.Proofs.YtlakeanldbdedaaGreat
open Go.RowKit Go.Afx

theorem setP_eq (W : Wds) (s : PSt) : setP W s = (((nameP W s).1, (expr1 W (mustP W [str [61]] (nameP W s).2)).1), (expr1 W (mustP W [str [61]] (nameP W s).2)).2) := rfl
/-- behind the name -/
structure Naming (gp gc gw gl gb n0 : Nat) (W : Wds) (s' : PSt) (w : World) (nm sc : ByteArray) (A : Option Addr) (c : Nat) (rows : List (List Value)) (D : Nat) (ns : List ByteArray) (xs : List Ex) (wr : World) : Prop where
  p : PAt gp gc gw W s' wr
  o : ∃ Ac cc, SetOwn n0 gl wr nm sc Ac cc A c rows D ns xs
  b : But (On3 gp gc gl n0) w wr
  k : IsBlk wr gb 50 #[.pointer (some ⟨gp, 0, none⟩)]
theorem Naming.of {gp gc gw gl gb n0 : Nat} {W : Wds} {s' : PSt} {w w5 Wc w6 : World} {nm sc a : ByteArray} {Ac : Option Addr} {cc : Nat} {A : Option Addr} {c : Nat} {rows : List (List Value)} {D : Nat} {ns : List ByteArray} {xs : List Ex} {A6 : Option Addr} {c6 : Nat}
    (hl : SetOwn n0 gl w nm sc Ac cc A c rows D ns xs) (hb : IsBlk w gb 50 #[.pointer (some ⟨gp, 0, none⟩)]) (hg : gp < n0 ∧ gc < n0 ∧ gw < n0 ∧ gl ≠ gp ∧ gl ≠ gc) (hg2 : gl ≠ gw ∧ gl < n0 ∧ gb < n0 ∧ gb ≠ gp ∧ gb ≠ gc ∧ gb ≠ gl) (hok : okS a)
    (hB : But (On2 gp gc) w.drew w5) (hP : PAt gp gc gw W s' w5) (hal : Below w5.heap.size w5 Wc) (hown : w6.ownsRow n0 9 1 (.slice A6 (ns.length + 1) c6) (ns.length + 1) (ns.map txrow ++ [txrow a]).flatten) (hbut : But (fun k => Ac.map (·.block) = some k) Wc w6) (hf : ∀ a2, A6 = some a2 → Ac = some a2 ∨ Wc.heap.size ≤ a2.block) :
    (IsBlk w6 gl 58 #[.int .i64 4, .string nm, .string sc, .int .i64 0, .slice Ac ns.length cc, .slice A xs.length c, .slice none 0 0, .slice none 0 0] ∧ IsBlk w6 gb 50 #[.pointer (some ⟨gp, 0, none⟩)]) ∧
    Naming gp gc gw gl gb n0 W s' w nm sc A c rows D (ns ++ [a]) xs (w6.setCell ⟨gl, 4, none⟩ (.slice A6 (ns.length + 1) c6)) := by
  have hld : SetOwn n0 gl w5 nm sc Ac cc A c rows D ns xs := (hl.on2 (gp := gp) (gc := gc) ((But.refl _ w).drew) ⟨hg.1, hg.2.1, hg.2.2.2⟩).on2 hB ⟨hg.1, hg.2.1, hg.2.2.2⟩
  have hb5 : IsBlk w5 gb 50 #[.pointer (some ⟨gp, 0, none⟩)] := IsBlk.as_was hb (hB.block gb (by have := hb.lt; simpa using this) (by rintro (e | e); exact hg2.2.2.2.1 e; exact hg2.2.2.2.2.1 e))
  have hlow := hld.lowc
  obtain ⟨a6, rfl, r1, hk6, hS6⟩ := hld.named hok hg2.2.1 hal hown hbut hf
  have hb6 := (hb5.as_was (hal.block _ hb5.lt)).as_was (hbut.block _ (hb5.as_was (hal.block _ hb5.lt)).lt (fun e => by have := hlow _ e; omega))
  have hbl := (But.refl (fun k => k = gl) w6).setCell (p := ⟨gl, 4, none⟩) (.inl rfl) (.slice (some a6) (ns.length + 1) c6)
  refine ⟨⟨hk6, hb6⟩, ((hP.below hal).off hbut (fun k hk => by have := hlow k hk; omega)).off hbl (fun k hk => by omega), ⟨_, _, hS6⟩, ?_, hb6.as_was (hbl.block _ hb6.lt (by have := hg2.2.2.2.2.2; omega))⟩
  have h1 : But (On3 gp gc gl n0) w w5 := ((But.refl (On3 gp gc gl n0) w).drew).trans' (on3_on2 hB)
  exact ((h1.trans' (But.of_below hal)).trans hbut (fun i hi => .inl (.inr (.inr (.inr (hlow i hi).1))))).trans hbl (fun i hi => .inl (.inr (.inr (.inl hi))))
/-- behind the expression -/
theorem SetOwn.grown {gp gc gw gl gb n0 : Nat} {W : Wds} {s' : PSt} {w w5 Wc w6 : World} {nm sc : ByteArray} {Ac : Option Addr} {cc : Nat} {A : Option Addr} {c : Nat} {rows : List (List Value)} {D D5 : Nat} {ns : List ByteArray} {xs : List Ex} {x : Ex} {A5 : Option Addr} {m5 c5 g6 c6 : Nat}
    (hl : SetOwn n0 gl w nm sc Ac cc A c rows D ns xs) (hg : gp < n0 ∧ gc < n0 ∧ gw < n0 ∧ gl ≠ gp ∧ gl ≠ gc) (hg2 : gl ≠ gw ∧ gl < n0 ∧ gb < n0 ∧ gb ≠ gp ∧ gb ≠ gc ∧ gb ≠ gl) (hn : n0 ≤ w.heap.size)
    (hB : But (On2 gp gc) w.drew w5) (hx : ExAt (Fr w.drew) D5 w5 [.int .i64 x.op, .int .i64 x.n, .string x.s, .string x.name, .string x.src, .slice A5 m5 c5] x) (hP : PAt gp gc gw W s' w5) (hal : Below w5.heap.size w5 Wc) (hown : w6.ownsRow n0 41 6 (.slice (some ⟨g6, 0, none⟩) (xs.length + 1) c6) (xs.length + 1) (rows ++ [zrow]).flatten) (hbut : But (fun k => A.map (·.block) = some k) Wc w6) (hf : ∀ a2, (some ⟨g6, 0, none⟩ : Option Addr) = some a2 → A = some a2 ∨ Wc.heap.size ≤ a2.block) (h6 : n0 ≤ g6) :
    PAt gp gc gw W s' ((lay6At w6 g6 (xs.length * 6) (.int .i64 x.op) (.int .i64 x.n) (.string x.s) (.string x.name) (.string x.src) (.slice A5 m5 c5)).setCell ⟨gl, 5, none⟩ (.slice (some ⟨g6, 0, none⟩) (xs.length + 1) c6)) ∧
    (∃ Ac' cc' A' c' rows' D', SetOwn n0 gl ((lay6At w6 g6 (xs.length * 6) (.int .i64 x.op) (.int .i64 x.n) (.string x.s) (.string x.name) (.string x.src) (.slice A5 m5 c5)).setCell ⟨gl, 5, none⟩ (.slice (some ⟨g6, 0, none⟩) (xs.length + 1) c6)) nm sc Ac' cc' A' c' rows' D' ns (xs ++ [x])) ∧
    But (On3 gp gc gl n0) w ((lay6At w6 g6 (xs.length * 6) (.int .i64 x.op) (.int .i64 x.n) (.string x.s) (.string x.name) (.string x.src) (.slice A5 m5 c5)).setCell ⟨gl, 5, none⟩ (.slice (some ⟨g6, 0, none⟩) (xs.length + 1) c6)) := by
  have hld : SetOwn n0 gl w.drew nm sc Ac cc A c rows D ns xs := hl.on2 (gp := gp) (gc := gc) ((But.refl _ w).drew) ⟨hg.1, hg.2.1, hg.2.2.2⟩
  have hlowA := hld.row.low
  have hlowc := hld.lowc
  have hn2 : n0 ≤ w.drew.heap.size := hn
  have hl5 := hld.on2 hB ⟨hg.1, hg.2.1, hg.2.2.2⟩
  have hk5 := hl5.blk
  have hk6 := (hk5.as_was (hal.block _ hk5.lt)).as_was (hbut.block _ (hk5.as_was (hal.block _ hk5.lt)).lt (fun e => by have := hlowA _ e; omega))
  have hG := GrownX.of hld.row ⟨hg.1, hg.2.1, hg.2.2.1⟩ hn2 (fun k hk => (hlowc k hk).2) hB hx hP hal hown hbut hf
  have hE := ExRow.grown (j := 5) hG hk6 ⟨hg.1, hg.2.1, hg.2.2.1, hg.2.2.2.1, hg.2.2.2.2, hg2.1, hg2.2.1⟩ hld.row.wid hld.row.len h6
  obtain ⟨hp, ⟨rows', hr⟩, hk, hb⟩ := hE
  have hoc := own_but hld.ownc hb (fun g hg3 e => by
    have h1 := hld.ownc.lt g hg3
    have h2 : Ac.map (·.block) = some g := by
      cases Ac with
      | none => cases hg3
      | some a => exact hg3
    rcases e with e | e | e | e
    · omega
    · omega
    · omega
    · exact hld.row.off g h2 e)
  refine ⟨hp, ⟨Ac, cc, _, _, rows', _, ⟨?_, hoc, hld.okc, hr⟩⟩, ((But.refl (On3 gp gc gl n0) w).drew).trans hb (fun i hi => .inl (by rcases hi with e | e | e | e; exact .inl e; exact .inr (.inl e); exact .inr (.inr (.inl e)); exact .inr (.inr (.inr (hlowA i e).1))))⟩
  have e : (xs ++ [x]).length = xs.length + 1 := by simp
  rw [e]
  simpa using hk
set_option maxRecDepth 100000 in
set_option maxHeartbeats 8000000 in
/-- one name more, and what it becomes -/
theorem pSetStep (gp gc gw gl gb n0 : Nat) (W : Wds) (s : PSt) (w : World) (nm sc : ByteArray) (Ac : Option Addr) (cc : Nat) (A : Option Addr) (c D : Nat) (rows : List (List Value)) (ns : List ByteArray) (xs : List Ex) (h : PAt gp gc gw W s w) (hl : SetOwn n0 gl w nm sc Ac cc A c rows D ns xs) (hb : IsBlk w gb 50 #[.pointer (some ⟨gp, 0, none⟩)])
    (hg : gp < n0 ∧ gc < n0 ∧ gw < n0 ∧ gl ≠ gp ∧ gl ≠ gc) (hg2 : gl ≠ gw ∧ gl < n0 ∧ gb < n0 ∧ gb ≠ gp ∧ gb ≠ gc ∧ gb ≠ gl) (hn : n0 ≤ w.heap.size) (hln : xs.length ≤ 1000000000002 ∧ ns.length ≤ 1000000000002) :
    Calls Tryz.prog 149 #[.pointer (some ⟨gl, 0, none⟩), .pointer (some ⟨gb, 0, none⟩)] w fun e w' => e = .returned (.tuple #[]) ∧ PAt gp gc gw W (setP W s).2 w' ∧ (∃ Ac' cc' A' c' rows' D', SetOwn n0 gl w' nm sc Ac' cc' A' c' rows' D' (ns ++ [(setP W s).1.1]) (xs ++ [(setP W s).1.2])) ∧ But (On3 gp gc gl n0) w w' := by
  have hd : PAt gp gc gw W s w.drew := h.below (Below.refl _ _).drew
  have hld : SetOwn n0 gl w.drew nm sc Ac cc A c rows D ns xs := hl.on2 (gp := gp) (gc := gc) ((But.refl _ w).drew) ⟨hg.1, hg.2.1, hg.2.2.2⟩
  have hbd : IsBlk w.drew gb 50 #[.pointer (some ⟨gp, 0, none⟩)] := hb
  obtain ⟨b0, b1, b2, b3, b4, b5, b6, b7, bl⟩ := cells8 hl.blk
  have c2 : w.cell? ⟨gb, 0, none⟩ = some (.pointer (some ⟨gp, 0, none⟩)) := by have := hb.cell 0; simpa using this
  have l2 := hb.lt
  have hok := name_ok h s
  have Hnm := Lib.hid (fun w2 (hW : PAt gp gc gw W s w2) => pName_any gp gc gw W s w2 hW)
  have hfin := setP_eq W s
  generalize setP W s = fin at *
  generalize nameP W s = a at *
  obtain ⟨na, sa⟩ := a
  have Hnm : Hid (∀ w2, PAt gp gc gw W s w2 → Calls Tryz.prog 39 #[.pointer (some ⟨gp, 0, none⟩)] w2 fun e w' => e = .returned (.string na) ∧ PAt gp gc gw W sa w' ∧ But (On2 gp gc) w2 w') := Lib.hid Hnm.out
  have hmu := fun g w2 (hW : PAt gp gc gw W sa w2) (hg : g = w2.heap.size) => pMust_any gp gc gw g W sa (str [61]) w2 hW hg
  simp only at hfin hok
  generalize mustP W [str [61]] sa = sm at *
  simp only [str] at hmu
  have hex := fun w2 (hW : PAt gp gc gw W sm w2) => pExpr1_any gp gc gw W sm w2 hW
  generalize expr1 W sm = b at *
  obtain ⟨x, sx⟩ := b
  simp only at hfin
  have Hex : Hid (∀ w2, PAt gp gc gw W sm w2 → Calls Tryz.prog 27 #[.pointer (some ⟨gp, 0, none⟩)] w2 (GivesE gp gc gw W sx x w2)) := Lib.hid hex
  have Hmu := Lib.hid hmu
  have Hfin := Lib.hid hfin
  have Hd := Lib.hid hd
  have Hl := Lib.hid hl
  have Hld := Lib.hid hld
  have Hb := Lib.hid hb
  have Hg := Lib.hid hg
  have Hg2 := Lib.hid hg2
  have Hn := Lib.hid hn
  have Hln := Lib.hid hln
  have Hok := Lib.hid hok
  have hcl : ∀ W2, But (On2 gp gc) w.drew W2 → W2.cell? ⟨gl, 4, none⟩ = some (.slice Ac ns.length cc) ∧ W2.cell? ⟨gb, 0, none⟩ = some (.pointer (some ⟨gp, 0, none⟩)) ∧ gl < W2.heap.size ∧ gb < W2.heap.size ∧ (∀ i, W2.frozen? ⟨gl, i, none⟩ = false) := fun W2 hW => by
    have k1 := hld.blk.as_was (hW.block _ hld.blk.lt (by rintro (e | e); exact hg.2.2.2.1 e; exact hg.2.2.2.2 e))
    have k2 := hbd.as_was (hW.block _ hbd.lt (by rintro (e | e); exact hg2.2.2.2.1 e; exact hg2.2.2.2.2.1 e))
    obtain ⟨a0, a1, a2, a3, a4, a5, a6, a7, al⟩ := cells8 k1
    have e2 := k2.cell 0
    simp at e2
    exact ⟨a4, e2, k1.lt, k2.lt, k1.frozen⟩
  have Hcl := Lib.hid hcl
  have hz1 : ∀ r ∈ [txrow na], r.length = 1 := by simp
  have hz2 : ∀ r ∈ [txrow na], ∀ u ∈ r, u.oneCell' = true := by
    intro r hr u hu
    simp only [List.mem_singleton] at hr
    subst hr
    simp only [List.mem_singleton] at hu
    subst hu
    rfl
  have Hz1 := Lib.hid hz1
  have Hz2 := Lib.hid hz2
  have hmx : ns.length + 1 ≤ maxLen := by have := hln.2; unfold maxLen; omega
  have hby : (ns.length + 1) * 16 ≤ 140737488355328 := by have := hln.2; omega
  have Hmx := Lib.hid (And.intro hmx hby)
  clear hd hld hbd hg hg2 hn hln h hl hb hcl hz1 hz2 hmx hby hok hmu hex hfin
  go_enter Tryz.func149, Tryz.ntmps149
  go_upto_region 0 with (fail)
  go_cut [] (fun wr => Naming gp gc gw gl gb n0 W sa w nm sc A c rows D (ns ++ [na]) xs wr)
  case first =>
    go_region_law (first
      | (go_simp; go_at_call 39; refine (Hnm.out _ Hd.out).mono ?_; rintro e5 w5 ⟨rfl, hP5, hB5⟩; obtain ⟨t1, t2, t3, t4, t5⟩ := Hcl.out _ hB5; have hO5 := own_below (own_but Hld.out.ownc hB5 (fun g hg e => by (have h1 := (Hld.out.ownc.lt g hg).1; have := Hg.out; rcases e with e | e <;> omega))) ((Below.refl w5.heap.size w5).alloc (Nat.le_refl _) (.cells (txrow na).toArray 9)); have hal5 := (Below.refl w5.heap.size w5).alloc (Nat.le_refl _) (.cells (txrow na).toArray 9))
      | (refine stepAppP (base := n0) (xs := ns.map txrow) (news := [txrow na]) rfl rfl tyTxt rfl (by with_reducible exact hO5) rfl (by exact RowsAt.lit' _ _ 1 rfl rfl Hz1.out rfl (by unfold maxLen; omega)) Hz1.out Hz2.out Hmx.out.1 Hmx.out.2 (by (have := Hn.out; have h1 := hB5.size; simp only [World.drew] at h1; simp; omega)) ?_; intro A6 c6 w6 hown6 hbut6 hf6; obtain ⟨⟨hk6, hb6⟩, hN6⟩ := Naming.of Hl.out Hb.out Hg.out Hg2.out Hok.out hB5 hP5 hal5 hown6 hbut6 hf6; obtain ⟨u0, u1, u2, u3, u4, u5, u6, u7, ul⟩ := cells8 hk6; have f6 := hk6.frozen))
    all_goals
      go_wp2
      go_meet
      exact hN6
  case rest =>
    obtain ⟨hP2, ⟨Ac2, cc2, hS2⟩, hB2, hk2⟩ := hcut
    have d2 := hk2.cell 0
    have d3 := hk2.lt
    simp only [List.getElem?_toArray, List.getElem?_cons_zero] at d2
    have H2 := Lib.hid (And.intro hP2 (And.intro hS2 (And.intro hB2 hk2)))
    clear hP2 hS2 hB2 hk2
    go_wp2_with (fail)
    refine (Hmu.out _ _ H2.out.1 rfl).mono ?_
    rintro e w4 ⟨rfl, hP4, hB4⟩
    have hl4 := H2.out.2.1.on2 hB4 ⟨Hg.out.1, Hg.out.2.1, Hg.out.2.2.2⟩
    have hb4 := H2.out.2.2.2.as_was (hB4.block _ H2.out.2.2.2.lt (by rintro (e | e); exact Hg2.out.2.2.2.1 e; exact Hg2.out.2.2.2.2.1 e))
    have hBB := H2.out.2.2.1.trans' (on3_on2 (gl := gl) (n0 := n0) hB4)
    have hn4 : n0 ≤ w4.heap.size := Nat.le_trans Hn.out hBB.size
    have hd4 : PAt gp gc gw W sm w4.drew := hP4.below (Below.refl _ _).drew
    have hld4 : SetOwn n0 gl w4.drew nm sc Ac2 cc2 A c rows D (ns ++ [na]) xs := hl4.on2 (gp := gp) (gc := gc) ((But.refl _ w4).drew) ⟨Hg.out.1, Hg.out.2.1, Hg.out.2.2.2⟩
    have hbd4 : IsBlk w4.drew gb 50 #[.pointer (some ⟨gp, 0, none⟩)] := hb4
    clear b0 b1 b2 b3 b4 b5 b6 b7 bl c2 l2 d2 d3
    obtain ⟨b0, b1, b2, b3, b4, b5, b6, b7, bl⟩ := cells8 hl4.blk
    have c2 : w4.cell? ⟨gb, 0, none⟩ = some (.pointer (some ⟨gp, 0, none⟩)) := by have := hb4.cell 0; simpa using this
    have l2 := hb4.lt
    have hal := (Below.refl w4.drew.heap.size w4.drew).alloc (Nat.le_refl _) (.cells zrow.toArray 41)
    have Hd4 := Lib.hid hd4
    have Hl4 := Lib.hid hl4
    have Hld4 := Lib.hid hld4
    have Hbd4 := Lib.hid hbd4
    have Hal := Lib.hid hal
    have Hn4 := Lib.hid hn4
    have HBB := Lib.hid hBB
    clear hd4 hl4 hld4 hbd4 hb4 hal hn4 hBB hB4 hP4
    have hcl : ∀ W2, But (On2 gp gc) w4.drew W2 → W2.cell? ⟨gl, 5, none⟩ = some (.slice A xs.length c) ∧ W2.cell? ⟨gb, 0, none⟩ = some (.pointer (some ⟨gp, 0, none⟩)) ∧ gl < W2.heap.size ∧ gb < W2.heap.size ∧ (∀ i, W2.frozen? ⟨gl, i, none⟩ = false) := fun W2 hW => by
      have k1 := Hld4.out.blk.as_was (hW.block _ Hld4.out.blk.lt (by rintro (e | e); exact Hg.out.2.2.2.1 e; exact Hg.out.2.2.2.2 e))
      have k2 := Hbd4.out.as_was (hW.block _ Hbd4.out.lt (by rintro (e | e); exact Hg2.out.2.2.2.1 e; exact Hg2.out.2.2.2.2.1 e))
      obtain ⟨a0, a1, a2, a3, a4, a5, a6, a7, al⟩ := cells8 k1
      have e2 := k2.cell 0
      simp at e2
      exact ⟨a5, e2, k1.lt, k2.lt, k1.frozen⟩
    have Hcl4 := Lib.hid hcl
    have hwid := Hld4.out.row.wid
    have hrl := Hld4.out.row.len
    have Hwid := Lib.hid (And.intro hwid hrl)
    clear hwid hrl
    have hd1 : PAt gp gc gw W sm (w4.drew.alloc (.cells zrow.toArray 41)) := Hd4.out.below Hal.out
    have Hd1 := Lib.hid hd1
    have hn0 : RowsAt (w4.drew.alloc (.cells zrow.toArray 41)) 6 (some ⟨w4.heap.size, 0, none⟩) 1 1 [zrow] := RowsAt.lit' _ _ 1 rfl rfl (by simp) rfl (by unfold maxLen; omega)
    have HN0 := Lib.hid hn0
    have hz1 : ∀ r ∈ [zrow], r.length = 6 := by simp
    have hz2 : ∀ r ∈ [zrow], ∀ u ∈ r, u.oneCell' = true := by
      intro r hr u hu
      simp only [List.mem_singleton] at hr
      subst hr
      simp only [List.mem_cons, List.not_mem_nil, or_false] at hu
      rcases hu with rfl | rfl | rfl | rfl | rfl | rfl <;> rfl
    have Hz3 := Lib.hid hz1
    have Hz4 := Lib.hid hz2
    have hmx : xs.length + 1 ≤ maxLen := by have := Hln.out.1; unfold maxLen; omega
    have hby : (xs.length + 1) * 88 ≤ 140737488355328 := by have := Hln.out.1; omega
    have Hmx4 := Lib.hid (And.intro hmx hby)
    have hgz : gp < w4.heap.size ∧ gc < w4.heap.size := by have := Hg.out; have := Hn4.out; omega
    have Hgz := Lib.hid hgz
    have hbx : ∀ w5 Wc w6, But (On2 gp gc) w4.drew w5 → Below w5.heap.size w5 Wc → But (fun k => A.map (·.block) = some k) Wc w6 → w6.cell? ⟨gl, 5, none⟩ = some (.slice A xs.length c) ∧ w6.cell? ⟨gb, 0, none⟩ = some (.pointer (some ⟨gp, 0, none⟩)) ∧ gl < w6.heap.size ∧ gb < w6.heap.size ∧ (∀ i, w6.frozen? ⟨gl, i, none⟩ = false) := fun w5 Wc w6 hB hal hbut => by
      have hlow := Hld4.out.row.low
      have k1 := Hld4.out.blk.as_was (hB.block _ Hld4.out.blk.lt (by rintro (e | e); exact Hg.out.2.2.2.1 e; exact Hg.out.2.2.2.2 e))
      have k2 := Hbd4.out.as_was (hB.block _ Hbd4.out.lt (by rintro (e | e); exact Hg2.out.2.2.2.1 e; exact Hg2.out.2.2.2.2.1 e))
      have k3 := k1.as_was (hal.block _ k1.lt)
      have k4 := k2.as_was (hal.block _ k2.lt)
      have k5 := k3.as_was (hbut.block _ k3.lt (fun e => by have := hlow _ e; have := Hg2.out; omega))
      have k6 := k4.as_was (hbut.block _ k4.lt (fun e => by have := hlow _ e; have := Hg2.out; omega))
      obtain ⟨a0, a1, a2, a3, a4, a5, a6, a7, al⟩ := cells8 k5
      have e2 := k6.cell 0
      simp at e2
      exact ⟨a5, e2, k5.lt, k6.lt, k5.frozen⟩
    have Hbx2 := Lib.hid hbx
    clear hbx
    have hni : (xs.length : Int) < (xs.length : Int) + 1 := by omega
    have hng : gl ≠ gb := fun e => Hg2.out.2.2.2.2.2 e.symm
    have hend : ∀ (w5 Wc w6 : World) (D5 : Nat) (A5 : Option Addr) (m5 c5 g6 c6 : Nat) (a : Act), But (On2 gp gc) w4.drew w5 → ExAt (Fr w4.drew) D5 w5 [.int .i64 x.op, .int .i64 x.n, .string x.s, .string x.name, .string x.src, .slice A5 m5 c5] x → PAt gp gc gw W sx w5 → Below w5.heap.size w5 Wc →
        w6.ownsRow n0 41 6 (.slice (some ⟨g6, 0, none⟩) (xs.length + 1) c6) (xs.length + 1) (rows ++ [zrow]).flatten → But (fun k => A.map (·.block) = some k) Wc w6 → (∀ a2, (some ⟨g6, 0, none⟩ : Option Addr) = some a2 → A = some a2 ∨ Wc.heap.size ≤ a2.block) → n0 ≤ g6 → a.defers = [] →
        bodyPost Tryz.prog Tryz.f149 (fun e w' => e = .returned (.tuple #[]) ∧ PAt gp gc gw W fin.2 w' ∧ (∃ Ac' cc' A' c' rows' D', SetOwn n0 gl w' nm sc Ac' cc' A' c' rows' D' (ns ++ [fin.1.1]) (xs ++ [fin.1.2])) ∧ But (On3 gp gc gl n0) w w') Exit.normal a (((((((w6.setCell ⟨g6, xs.length * 6, none⟩ (.int .i64 x.op)).setCell ⟨g6, xs.length * 6 + 1, none⟩ (.int .i64 x.n)).setCell ⟨g6, xs.length * 6 + 2, none⟩ (.string x.s)).setCell ⟨g6, xs.length * 6 + 3, none⟩ (.string x.name)).setCell ⟨g6, xs.length * 6 + 4, none⟩ (.string x.src)).setCell ⟨g6, xs.length * 6 + 5, none⟩ (.slice A5 m5 c5)).setCell ⟨gl, 5, none⟩ (.slice (some ⟨g6, 0, none⟩) (xs.length + 1) c6)) := by
      intro w5 Wc w6 D5 A5 m5 c5 g6 c6 a hB5 hx5 hP5 hal5 hown6 hbut6 hf6 r1 hdef
      have hend := SetOwn.grown Hl4.out Hg.out Hg2.out Hn4.out hB5 hx5 hP5 hal5 hown6 hbut6 hf6 r1
      rw [lay6At_eq]
      refine bodyPost_end (results_none rfl _ _ _) hdef ?_
      rw [Hfin.out]
      exact ⟨rfl, hend.1, hend.2.1, HBB.out.trans' hend.2.2⟩
    have Hend := Lib.hid hend
    clear hend
    clear hcl hd1 hn0 hz1 hz2 hmx hby hgz
    go_upto_region 2 with (fail)
    go_region_law (first
      | (go_simp; go_at_call 27; refine (Hex.out _ (by first | with_reducible exact Hd4.out | exact Hd1.out)).mono ?_; rintro e5 w5 ⟨row5, D5, rfl, hx5, hP5, hB5⟩; have hB5' : But (On2 gp gc) w4.drew w5 := (by first | with_reducible exact hB5 | exact (But.of_below Hal.out).trans' hB5); have hx5' : ExAt (Fr w4.drew) D5 w5 row5 x := (by first | with_reducible exact hx5 | exact ExAt.conv (fun k hk => Nat.le_trans Hal.out.size hk) (Kept.refl _ _) D5 (Nat.le_refl _) hx5); obtain ⟨A5, m5, c5, rfl⟩ := ex_row6 hx5; obtain ⟨t1, t2, t3, t4, t5⟩ := Hcl4.out _ hB5'; have hO5 := own_but Hld4.out.row.own hB5' (fun g hg e => by (have h1 := (Hld4.out.row.own.lt g hg).1; have := Hg.out; rcases e with e | e <;> omega)); have hal5 := (Below.refl w5.heap.size w5).alloc (Nat.le_refl _) (.cells zrow.toArray 41))
      | (refine stepAppP (base := n0) (xs := rows) (news := [zrow]) rfl rfl tyExp rfl (by first | with_reducible exact hO5 | exact own_below hO5 hal5) rfl (by first | exact RowsAt.lit' _ _ 1 rfl rfl Hz3.out rfl (by unfold maxLen; omega) | exact RowsAt.but HN0.out hB5 (fun a ha _ hs => by (cases ha; have := Hgz.out; rcases hs with e | e <;> (simp only at e; omega)))) Hz3.out Hz4.out Hmx4.out.1 Hmx4.out.2 (by (have := Hn4.out; have h1 := hB5'.size; first | (simp only [World.drew] at h1; omega) | (simp only [World.drew] at h1; simp; omega))) ?_; intro A6 c6 w6 hown6 hbut6 hf6; obtain ⟨g6, rfl, r1, r2, r3, r4, r5, r6, r7, r8, r9, r10⟩ := own_tail hown6 Hwid.out.1 Hwid.out.2; obtain ⟨u1, u2, u3, u4, u5⟩ := Hbx2.out _ _ _ hB5' (by first | with_reducible exact hal5 | exact Below.refl _ _) hbut6; have e1 : g6 ≠ gl := (by (have := Hg2.out; omega)); have e2 : gl ≠ g6 := (by (have := Hg2.out; omega))))
    all_goals
      try rw [lay_swapJ e1]
      with_reducible exact Hend.out _ _ _ _ _ _ _ _ _ _ hB5' hx5' hP5 (by first | with_reducible exact hal5 | exact Below.refl _ _) hown6 hbut6 hf6 r1 rfl
end Go.Proofs.YtlakeanldbdedaaGreat
