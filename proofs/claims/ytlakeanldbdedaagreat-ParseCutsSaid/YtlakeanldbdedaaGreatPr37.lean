/- Parts of this proof, one behind the other: ParZ1, ParZ2. -/
import Derived.Test.YtlakeanldbdedaaGreatPr30
import Derived.Test.YtlakeanldbdedaaGreatPr36
namespace Go.Proofs.YtlakeanldbdedaaGreat
open Go.RowKit Go.Afx

/-- a block takes its statements, by how much is to come -/
theorem pBlocks_fuel (gp gc gw : Nat) (W : Wds) (hW : W.l.length ≤ 1000000) : ∀ f, TakesB gp gc gw W f := by
  intro f
  induction f with
  | zero => intro s w _ _ h; omega
  | succ f ih => exact pBlock_any gp gc gw W hW f (pStmt_any gp gc gw W f ih)
theorem pBlock1_any (gp gc gw : Nat) (W : Wds) (hW : W.l.length ≤ 1000000) (s : PSt) (w : World) (h : PAt gp gc gw W s w) : Calls Tryz.prog 48 #[.pointer (some ⟨gp, 0, none⟩)] w (GivesB gp gc gw W (block1 W s).2 (block1 W s).1 w) :=
  pBlocks_fuel gp gc gw W hW W.fuel s w h (fit_all W s) (by unfold Wds.fuel; omega)
theorem up_block1 (W : Wds) (s : PSt) : Ge s (block1 W s).2 := up_block W _ s
theorem tyCol : ElemTy Tryz.prog 22 62 2 24 (.agg #[.string ByteArray.empty, .int .i64 0]) := ⟨Tryz.underlying22, by kernel_rfl, rfl, by decide⟩
abbrev crow (p : Co) : List Value := [.string p.name, .int .i64 p.kind]
theorem crow_len (ps : List Co) : ∀ r ∈ ps.map crow, r.length = 2 := by
  intro r hr
  obtain ⟨p, _, rfl⟩ := List.mem_map.1 hr
  rfl
/-- a procedure whose parameters grow -/
structure ProOwn (n0 gl : Nat) (w : World) (nm : ByteArray) (A : Option Addr) (c : Nat) (ps : List Co) : Prop where
  blk : IsBlk w gl 25 #[.string nm, .string ⟨#[]⟩, .string ⟨#[]⟩, .int .i64 100, .slice A ps.length c, .slice none 0 0]
  own : w.ownsRow n0 62 2 (.slice A ps.length c) ps.length (ps.map crow).flatten
  ok : ∀ p ∈ ps, okS p.name ∧ okI p.kind
section
variable {gp gc gw gl gb n0 : Nat} {W : Wds} {s' : PSt} {w w' w5 Wc w6 : World} {nm : ByteArray} {A : Option Addr} {c : Nat} {ps : List Co}
theorem ProOwn.low (h : ProOwn n0 gl w nm A c ps) : ∀ k, A.map (·.block) = some k → n0 ≤ k ∧ k < w.heap.size := by
  intro k hk
  cases A with
  | none => cases hk
  | some a =>
    have e : a.block = k := by simpa using hk
    subst e
    exact h.own.lt a.block rfl
theorem ProOwn.on2 (h : ProOwn n0 gl w nm A c ps) (hb : But (On2 gp gc) w w5) (hg : gp < n0 ∧ gc < n0 ∧ gl ≠ gp ∧ gl ≠ gc) : ProOwn n0 gl w5 nm A c ps :=
  ⟨h.blk.as_was (hb.block _ h.blk.lt (by rintro (e | e); exact hg.2.2.1 e; exact hg.2.2.2 e)), own_but h.own hb (fun g hg2 hs => by have := (h.own.lt g hg2).1; rcases hs with e | e <;> omega), h.ok⟩
theorem ProOwn.list (h : ProOwn n0 gl w nm A c ps) : LsAt (fun b => n0 ≤ b) w 2 CoRow A ps.length c ps :=
  ⟨ps.map crow, RowsAt.of_own h.own (crow_len ps) (by simp), fun a ha _ => (h.low a.block (by rw [ha]; rfl)).1, by simp, fun k r x hr hx => by
    rw [List.getElem?_map, hx] at hr
    simp only [Option.map_some, Option.some.injEq] at hr
    subst hr
    exact ⟨rfl, rfl, h.ok x (List.mem_of_getElem? hx)⟩⟩
/-- one parameter more -/
theorem ProOwn.push {x : Co} (hl : ProOwn n0 gl w nm A c ps) (hg : gp < n0 ∧ gc < n0 ∧ gw < n0 ∧ gl ≠ gp ∧ gl ≠ gc) (hg2 : gl ≠ gw ∧ gl < n0 ∧ gb < n0 ∧ gb ≠ gp ∧ gb ≠ gc ∧ gb ≠ gl) (hok : okS x.name ∧ okI x.kind)
    (hB : But (On2 gp gc) w.drew w5) (hP : PAt gp gc gw W s' w5) (hal : Below w5.heap.size w5 Wc) {A6 : Option Addr} {c6 : Nat} (hown : w6.ownsRow n0 62 2 (.slice A6 (ps.length + 1) c6) (ps.length + 1) (ps.map crow ++ [crow x]).flatten) (hbut : But (fun k => A.map (·.block) = some k) Wc w6) :
    IsBlk w6 gl 25 #[.string nm, .string ⟨#[]⟩, .string ⟨#[]⟩, .int .i64 100, .slice A ps.length c, .slice none 0 0] ∧ PAt gp gc gw W s' (w6.setCell ⟨gl, 4, none⟩ (.slice A6 (ps.length + 1) c6)) ∧ ProOwn n0 gl (w6.setCell ⟨gl, 4, none⟩ (.slice A6 (ps.length + 1) c6)) nm A6 c6 (ps ++ [x]) ∧ But (On3 gp gc gl n0) w (w6.setCell ⟨gl, 4, none⟩ (.slice A6 (ps.length + 1) c6)) := by
  have hld : ProOwn n0 gl w5 nm A c ps := (hl.on2 (gp := gp) (gc := gc) ((But.refl _ w).drew) ⟨hg.1, hg.2.1, hg.2.2.2⟩).on2 hB ⟨hg.1, hg.2.1, hg.2.2.2⟩
  have hlow := hld.low
  have hk6 := (hld.blk.as_was (hal.block _ hld.blk.lt)).as_was (hbut.block _ (hld.blk.as_was (hal.block _ hld.blk.lt)).lt (fun e => by have := hlow gl e; omega))
  have hbl := (But.refl (fun k => k = gl) w6).setCell (p := ⟨gl, 4, none⟩) (.inl rfl) (.slice A6 (ps.length + 1) c6)
  have e : (ps ++ [x]).length = ps.length + 1 := by simp
  have e2 : (ps ++ [x]).map crow = ps.map crow ++ [crow x] := by simp
  refine ⟨hk6, ((hP.below hal).off hbut (fun k hk => by have := hlow k hk; omega)).off hbl (fun k hk => by omega), ⟨?_, ?_, ?_⟩, ?_⟩
  · have := hk6.stored 4 (.slice A6 (ps.length + 1) c6)
    rw [e]
    simpa using this
  · rw [e, e2]
    exact own_but hown hbl (fun g2 hg2 e2 => by have := (hown.lt g2 hg2).1; omega)
  · intro y hy
    rcases List.mem_append.1 hy with hy | hy
    · exact hl.ok y hy
    · simp only [List.mem_singleton] at hy; subst hy; exact hok
  · have h1 : But (On3 gp gc gl n0) w w5 := ((But.refl (On3 gp gc gl n0) w).drew).trans' (on3_on2 hB)
    exact ((h1.trans' (But.of_below hal)).trans hbut (fun i hi => .inl (.inr (.inr (.inr (hlow i hi).1))))).trans hbl (fun i hi => .inl (.inr (.inr (.inl hi))))
end
theorem kind_ok (W : Wds) (s : PSt) : okI (kindP W s).1 := by
  rw [kindP_eq]
  repeat' split
  all_goals exact ⟨by simp, by simp⟩
theorem paramP_eq (W : Wds) (s : PSt) : paramP W s = (⟨(nameP W s).1, (kindP W (nameP W s).2).1⟩, (kindP W (nameP W s).2).2) := rfl
theorem up_kind (W : Wds) (s : PSt) : Ge s (kindP W s).2 := by
  rw [kindP_eq]
  repeat' split
  all_goals first | exact ge_may W _ s | exact ge_fail s
theorem up_param (W : Wds) (s : PSt) : Ge s (paramP W s).2 := (up_name W s).trans (up_kind W _)
set_option maxRecDepth 100000 in
set_option maxHeartbeats 8000000 in
/-- one parameter more -/
theorem pParamStep (gp gc gw gl gb n0 : Nat) (W : Wds) (s : PSt) (w : World) (nm : ByteArray) (A : Option Addr) (c : Nat) (ps : List Co) (h : PAt gp gc gw W s w) (hl : ProOwn n0 gl w nm A c ps) (hb : IsBlk w gb 50 #[.pointer (some ⟨gp, 0, none⟩)])
    (hg : gp < n0 ∧ gc < n0 ∧ gw < n0 ∧ gl ≠ gp ∧ gl ≠ gc) (hg2 : gl ≠ gw ∧ gl < n0 ∧ gb < n0 ∧ gb ≠ gp ∧ gb ≠ gc ∧ gb ≠ gl) (hn : n0 ≤ w.heap.size) (hln : ps.length ≤ 1000000000002) :
    Calls Tryz.prog 43 #[.pointer (some ⟨gb, 0, none⟩), .pointer (some ⟨gl, 0, none⟩)] w fun e w' => e = .returned (.tuple #[]) ∧ PAt gp gc gw W (paramP W s).2 w' ∧ (∃ A' c', ProOwn n0 gl w' nm A' c' (ps ++ [(paramP W s).1])) ∧ But (On3 gp gc gl n0) w w' := by
  have hok := And.intro (name_ok h s) (kind_ok W (nameP W s).2)
  rw [paramP_eq]
  have hnm := pName_any gp gc gw W s w h
  generalize nameP W s = a at *
  obtain ⟨na, sa⟩ := a
  simp only at hok hnm ⊢
  have hkd := fun w2 (hW : PAt gp gc gw W sa w2) => pKind_any gp gc gw W sa w2 hW
  generalize kindP W sa = b at *
  obtain ⟨kd, sk⟩ := b
  simp only at hok hkd ⊢
  have c2 : w.cell? ⟨gb, 0, none⟩ = some (.pointer (some ⟨gp, 0, none⟩)) := by have := hb.cell 0; simpa using this
  have l2 := hb.lt
  have Hnm := Lib.hid hnm
  have Hkd := Lib.hid hkd
  have Hok := Lib.hid hok
  have Hl := Lib.hid hl
  have Hb := Lib.hid hb
  have Hg := Lib.hid hg
  have Hg2 := Lib.hid hg2
  have Hn := Lib.hid hn
  have Hln := Lib.hid hln
  clear hnm hkd hok hl hb hg hg2 hn hln h
  go_enter Tryz.func43, Tryz.ntmps43
  go_wp2_with (fail)
  refine Hnm.out.mono ?_
  rintro e w2 ⟨rfl, hP2, hB2⟩
  have hl2 := Hl.out.on2 hB2 ⟨Hg.out.1, Hg.out.2.1, Hg.out.2.2.2⟩
  have hb2 := Hb.out.as_was (hB2.block _ Hb.out.lt (by have := Hg2.out; rintro (e | e) <;> omega))
  have hd : PAt gp gc gw W sa w2.drew := hP2.below (Below.refl _ _).drew
  have hld : ProOwn n0 gl w2.drew nm A c ps := hl2.on2 (gp := gp) (gc := gc) ((But.refl _ w2).drew) ⟨Hg.out.1, Hg.out.2.1, Hg.out.2.2.2⟩
  have hbd : IsBlk w2.drew gb 50 #[.pointer (some ⟨gp, 0, none⟩)] := hb2
  have hcl : ∀ W2, But (On2 gp gc) w2.drew W2 → W2.cell? ⟨gl, 4, none⟩ = some (.slice A ps.length c) ∧ W2.cell? ⟨gb, 0, none⟩ = some (.pointer (some ⟨gp, 0, none⟩)) ∧ gl < W2.heap.size ∧ gb < W2.heap.size ∧ (∀ i, W2.frozen? ⟨gl, i, none⟩ = false) := fun W2 hW => by
    have k1 := hld.blk.as_was (hW.block _ hld.blk.lt (by have := Hg.out; rintro (e | e) <;> omega))
    have k2 := hbd.as_was (hW.block _ hbd.lt (by have := Hg2.out; rintro (e | e) <;> omega))
    obtain ⟨a0, a1, a2, a3, a4, a5, al⟩ := cells6 k1
    have e2 := k2.cell 0
    simp at e2
    exact ⟨a4, e2, k1.lt, k2.lt, k1.frozen⟩
  have hn2 : n0 ≤ w2.heap.size := Nat.le_trans Hn.out hB2.size
  have hBB : But (On3 gp gc gl n0) w w2 := on3_on2 hB2
  obtain ⟨b0, b1, b2, b3, b4, b5, bl⟩ := cells6 hl2.blk
  have c2 : w2.cell? ⟨gb, 0, none⟩ = some (.pointer (some ⟨gp, 0, none⟩)) := by have := hb2.cell 0; simpa using this
  have l2 := hb2.lt
  have Hl2 := Lib.hid hl2
  have Hd := Lib.hid hd
  have Hld := Lib.hid hld
  have Hcl := Lib.hid hcl
  have Hn2 := Lib.hid hn2
  have HBB := Lib.hid hBB
  have hz1 : ∀ r ∈ [crow ⟨na, kd⟩], r.length = 2 := by simp
  have hz2 : ∀ r ∈ [crow ⟨na, kd⟩], ∀ u ∈ r, u.oneCell' = true := by
    intro r hr u hu
    simp only [List.mem_singleton] at hr
    subst hr
    simp only [List.mem_cons, List.not_mem_nil, or_false] at hu
    rcases hu with rfl | rfl <;> rfl
  have Hz1 := Lib.hid hz1
  have Hz2 := Lib.hid hz2
  have hmx : ps.length + 1 ≤ maxLen := by have := Hln.out; unfold maxLen; omega
  have hby : (ps.length + 1) * 24 ≤ 140737488355328 := by have := Hln.out; omega
  have Hmx := Lib.hid (And.intro hmx hby)
  have hend : ∀ (w5 Wc w6 : World) (A6 : Option Addr) (c6 : Nat) (a : Act), But (On2 gp gc) w2.drew w5 → PAt gp gc gw W sk w5 → Below w5.heap.size w5 Wc → w6.ownsRow n0 62 2 (.slice A6 (ps.length + 1) c6) (ps.length + 1) (ps.map crow ++ [crow ⟨na, kd⟩]).flatten → But (fun k => A.map (·.block) = some k) Wc w6 → a.defers = [] →
      bodyPost Tryz.prog Tryz.f43 (fun e w' => e = .returned (.tuple #[]) ∧ PAt gp gc gw W sk w' ∧ (∃ A' c', ProOwn n0 gl w' nm A' c' (ps ++ [⟨na, kd⟩])) ∧ But (On3 gp gc gl n0) w w') Exit.normal a (w6.setCell ⟨gl, 4, none⟩ (.slice A6 (ps.length + 1) c6)) := by
    intro w5 Wc w6 A6 c6 a hB5 hP5 hal5 hown6 hbut6 hdef
    obtain ⟨_, h1, h2, h3⟩ := ProOwn.push (gb := gb) Hl2.out Hg.out Hg2.out Hok.out hB5 hP5 hal5 hown6 hbut6
    refine bodyPost_end (results_none rfl _ _ _) hdef ?_
    exact ⟨rfl, h1, ⟨_, _, h2⟩, HBB.out.trans' h3⟩
  have Hend := Lib.hid hend
  clear hP2 hB2 hl2 hb2 hd hld hbd hcl hn2 hBB hz1 hz2 hmx hby hend
  go_upto_region 1 with (fail)
  go_region_law (first
    | (go_simp; go_at_call 44; refine (Hkd.out _ Hd.out).mono ?_; rintro e5 w5 ⟨rfl, hP5, hB5⟩; obtain ⟨t1, t2, t3, t4, t5⟩ := Hcl.out _ hB5; have hO5 := own_below (own_but Hld.out.own hB5 (fun g hg e => by (have h1 := (Hld.out.own.lt g hg).1; have := Hg.out; rcases e with e | e <;> omega))) ((Below.refl w5.heap.size w5).alloc (Nat.le_refl _) (.cells (crow ⟨na, kd⟩).toArray 62)); have hal5 := (Below.refl w5.heap.size w5).alloc (Nat.le_refl _) (.cells (crow ⟨na, kd⟩).toArray 62))
    | (refine stepAppP (base := n0) (xs := ps.map crow) (news := [crow ⟨na, kd⟩]) rfl rfl tyCol rfl (by with_reducible exact hO5) rfl (by exact RowsAt.lit' _ _ 1 rfl rfl Hz1.out rfl (by unfold maxLen; omega)) Hz1.out Hz2.out Hmx.out.1 Hmx.out.2 (by (have := Hn2.out; have h1 := hB5.size; simp only [World.drew] at h1; simp; omega)) ?_; intro A6 c6 w6 hown6 hbut6 hf6; have hk6 := (ProOwn.push (gb := gb) Hl2.out Hg.out Hg2.out Hok.out hB5 hP5 hal5 hown6 hbut6).1; obtain ⟨u0, u1, u2, u3, u4, u5, ul⟩ := cells6 hk6; have f6 := hk6.frozen))
  all_goals
    with_reducible exact Hend.out _ _ _ _ _ _ hB5 hP5 hal5 hown6 hbut6 rfl
end Go.Proofs.YtlakeanldbdedaaGreat

namespace Go.Proofs.YtlakeanldbdedaaGreat
open Go.RowKit Go.Afx

set_option maxRecDepth 100000 in
set_option maxHeartbeats 4000000 in
theorem pList_params (gp gc gw gl gb n0 : Nat) (W : Wds) (s : PSt) (w : World) (nm : ByteArray) (h : PAt gp gc gw W s w) (hl : ProOwn n0 gl w nm none 0 []) (hb : IsBlk w gb 50 #[.pointer (some ⟨gp, 0, none⟩)])
    (hg : gp < n0 ∧ gc < n0 ∧ gw < n0 ∧ gl ≠ gp ∧ gl ≠ gc) (hg2 : gl ≠ gw ∧ gl < n0 ∧ gb < n0 ∧ gb ≠ gp ∧ gb ≠ gc ∧ gb ≠ gl) (hn : n0 ≤ w.heap.size) :
    Calls Tryz.prog 42 #[.pointer (some ⟨gp, 0, none⟩), .func (.func 43) #[] #[.pointer (some ⟨gb, 0, none⟩), .pointer (some ⟨gl, 0, none⟩)]] w fun e w' => e = .returned (.tuple #[]) ∧ PAt gp gc gw W (list1 W (paramP W) s).2 w' ∧ (∃ A' c', ProOwn n0 gl w' nm A' c' (list1 W (paramP W) s).1) ∧ But (On3 gp gc gl n0) w w' := by
  have hmax := h.cu.max
  have Hst := Lib.hid (fun s' w2 A c xs (hW : PAt gp gc gw W s' w2) (hL : ProOwn n0 gl w2 nm A c xs) (hB : But (On3 gp gc gl n0) w w2) (hln : xs.length ≤ 1000000000001) =>
    pParamStep gp gc gw gl gb n0 W s' w2 nm A c xs hW hL (hb.as_was (hB.block _ hb.lt (by rintro (e | e | e | e) <;> omega))) hg hg2 (Nat.le_trans hn hB.size) (by omega))
  have Hmay := Lib.hid (fun s' w2 (hW : PAt gp gc gw W s' w2) => pMay_any gp gc gw W s' (str [44]) w2 hW)
  have hfin : list1 W (paramP W) s = listP W (paramP W) (W.l.length + 1) [(paramP W s).1] (paramP W s).2 := rfl
  generalize list1 W (paramP W) s = fin at *
  have Hfin := Lib.hid hfin
  have H0 := Lib.hid (And.intro h hl)
  have Hg := Lib.hid (And.intro hg hg2)
  have Hmax := Lib.hid hmax
  clear h hl hb hg hg2 hn hfin hmax
  go_enter Tryz.func42, Tryz.ntmps42
  go_wp2_with (fail)
  refine (Hst.out s w none 0 [] H0.out.1 H0.out.2 (But.refl _ _) (by simp)).mono ?_
  rintro e w2 ⟨rfl, hP, hL, hB⟩
  have H2 := Lib.hid (And.intro hP (And.intro hL hB))
  clear hP hL hB
  go_wp2
  go_loopw [] (fun wr => ∃ (s' : PSt) (xs : List Co) (k : Nat), PAt gp gc gw W s' wr ∧ (∃ A' c', ProOwn n0 gl wr nm A' c' xs) ∧ But (On3 gp gc gl n0) w wr ∧ Hid (fin = listP W (paramP W) k xs s') ∧ Hid (Fit W k s' ∧ 1 ≤ k ∧ xs.length ≤ s'.at_ + 1)) (fun wr => W.l.length - atOf wr gc)
  case atStart => exact ⟨_, _, _, H2.out.1, H2.out.2.1, H2.out.2.2, Hfin, Lib.hid ⟨.inr (by omega), by omega, by simp⟩⟩
  case round =>
    obtain ⟨s', xs, k, hP, hL, hB, HF, HS⟩ := hrel
    obtain ⟨hfit, hk1, hxl⟩ := HS.out
    obtain ⟨k, rfl⟩ : ∃ k', k = k' + 1 := ⟨k - 1, by omega⟩
    have hle := hP.le
    have hat0 := atOf_eq hP
    have Hat0 := Lib.hid hat0
    have hm := Hmay.out s' wr hP
    have hgo := HF.out
    rw [listP_go] at hgo
    have H := Lib.hid (And.intro hP (And.intro hL hB))
    have Hle := Lib.hid (And.intro hfit (And.intro hxl hle))
    rcases may_cases W (str [44]) s' with hc | ⟨hc, hbad, hat⟩
    · rw [hc] at hm hgo
      simp only [Bool.false_eq_true, if_false] at hgo
      subst hgo
      simp only [str] at hm
      have Hm := Lib.hid hm
      clear hm hc hP hL hB hfit hk1 hxl hle hat0
      go_wp2_with (fail)
      refine Hm.out.mono ?_
      rintro e3 w3 ⟨rfl, hP, hB⟩
      have hB3 := H.out.2.2.trans' (on3_on2 (gl := gl) (n0 := n0) hB)
      obtain ⟨A, c, hL⟩ := H.out.2.1
      have hL3 := hL.on2 hB ⟨Hg.out.1.1, Hg.out.1.2.1, Hg.out.1.2.2.2⟩
      have H3 := Lib.hid (And.intro hP (And.intro (⟨A, c, hL3⟩ : ∃ A' c', ProOwn n0 gl w3 nm A' c' xs) hB3))
      clear hP hB hB3 hL hL3
      go_wp2
      refine bodyPost_end (results_none rfl _ _ _) rfl ?_
      exact ⟨rfl, H3.out.1, H3.out.2.1, H3.out.2.2⟩
    · rw [hc] at hm hgo
      simp only [if_true] at hgo
      simp only [str] at hm
      have Hm := Lib.hid hm
      have Hgo := Lib.hid hgo
      have Hlt := Lib.hid (And.intro hbad hat)
      clear hm hc hP hL hB hfit hk1 hxl hle hat0 hgo hbad hat
      go_wp2_with (fail)
      refine Hm.out.mono ?_
      rintro e3 w3 ⟨rfl, hP, hB⟩
      have hB3 := H.out.2.2.trans' (on3_on2 (gl := gl) (n0 := n0) hB)
      obtain ⟨A, c, hL⟩ := H.out.2.1
      have hL3 := hL.on2 hB ⟨Hg.out.1.1, Hg.out.1.2.1, Hg.out.1.2.2.2⟩
      have Hs := Lib.hid (Hst.out s'.on w3 A c xs hP hL3 hB3 (by have := Hle.out; have := Hmax.out; omega))
      have HB3 := Lib.hid hB3
      clear hP hB hB3 hL hL3
      go_wp2_with (fail)
      refine Hs.out.mono ?_
      rintro e4 w4 ⟨rfl, hP, hL, hB⟩
      have hup := up_param W s'.on
      have hm4 : W.l.length - atOf w4 gc < W.l.length - atOf wr gc := by
        rw [atOf_eq hP, Hat0.out]
        have h1 := hup.1
        have h2 : s'.on.at_ = s'.at_ + 1 := rfl
        have := Hlt.out.2
        omega
      have hfit4 : Fit W k (paramP W s'.on).2 ∧ 1 ≤ k ∧ (xs ++ [(paramP W s'.on).1]).length ≤ (paramP W s'.on).2.at_ + 1 := by
        have h1 := hup.1
        have h2 : s'.on.at_ = s'.at_ + 1 := rfl
        have h3 := Hle.out
        have h4 : W.l.length < s'.at_ + (k + 1) := h3.1.elim (fun e => by rw [Hlt.out.1] at e; cases e) id
        have h5 := Hlt.out.2
        refine ⟨(Fit.on h3.1).ge hup, by omega, ?_⟩
        simp
        omega
      have H4 := Lib.hid (And.intro hP (And.intro hL (HB3.out.trans' hB)))
      have Hm4 := Lib.hid hm4
      have Hf4 := Lib.hid hfit4
      clear hP hL hB hup hm4 hfit4
      go_wp2
      go_roundw
      case rel => exact ⟨_, _, k, H4.out.1, H4.out.2.1, H4.out.2.2, Hgo, Hf4⟩
      case measure => exact Hm4.out
end Go.Proofs.YtlakeanldbdedaaGreat
