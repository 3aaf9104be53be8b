/- Parts of this proof, one behind the other: ParD, Hue. -/
import Derived.Test.YtlakeanldbdedaaGreatPr9
import Derived.Deep.Cut
import Derived.Deep.RegionHeld3
import Derived.Deep.RegionWith
import Derived.Test.YtlakeanldbdedaaGreatPr2
namespace Go.Proofs.YtlakeanldbdedaaGreat
open Go.RowKit Go.Afx

/-- 'a level: signs and their ops' -/
structure LvAt (gp gc : Nat) (w : World) (A : Option Addr) (ca : Nat) (B : Option Addr) (cb : Nat) (l : List (ByteArray × Int)) : Prop where
  a : TxsAt w A l.length ca (l.map (·.1))
  b : RowsAt w 1 B l.length cb (l.map fun p => [.int .i64 p.2])
  offA : ∀ x, A = some x → Off gp gc x.block
  offB : ∀ x, B = some x → Off gp gc x.block
theorem LvAt.but {gp gc : Nat} {w w' : World} {A : Option Addr} {ca : Nat} {B : Option Addr} {cb : Nat} {l : List (ByteArray × Int)} (h : LvAt gp gc w A ca B cb l) (hb : But (On2 gp gc) w w') : LvAt gp gc w' A ca B cb l :=
  ⟨RowsAt.but h.a hb fun a ha _ hs => by
      obtain ⟨h1, h2⟩ := h.offA a ha
      rcases hs with e | e
      · exact h1 e
      · exact h2 e,
    RowsAt.but h.b hb fun a ha _ hs => by
      obtain ⟨h1, h2⟩ := h.offB a ha
      rcases hs with e | e
      · exact h1 e
      · exact h2 e, h.offA, h.offB⟩
theorem LvAt.op {gp gc : Nat} {w : World} {A : Option Addr} {ca : Nat} {B : Option Addr} {cb : Nat} {l : List (ByteArray × Int)} (h : LvAt gp gc w A ca B cb l) {k : Nat} {t : ByteArray} {op : Int} (hk : l[k]? = some (t, op)) :
    ∃ b o, B = some ⟨b, o, none⟩ ∧ ∀ W, But (On2 gp gc) w W → b < W.heap.size ∧ W.cell? ⟨b, o + k, none⟩ = some (.int .i64 op) := by
  obtain ⟨b, o, hB, _, _⟩ := RowsAt.one h.b (k := k) (u := .int .i64 op) (by rw [List.getElem?_map, hk]; rfl)
  refine ⟨b, o, hB, fun W hW => ?_⟩
  obtain ⟨b2, o2, hB2, hlt, hc⟩ := RowsAt.one (h.but hW).b (k := k) (u := .int .i64 op) (by rw [List.getElem?_map, hk]; rfl)
  rw [hB] at hB2
  injection hB2 with hB2
  injection hB2 with e1 e2
  subst e1 e2
  exact ⟨hlt, hc⟩
theorem opP_at {W : Wds} {l : List (ByteArray × Int)} {s : PSt} {k : Nat} {t : ByteArray} {op : Int} (h : l[k]? = some (t, op)) : opP W (l.drop k) s = if (mayP W t s).1 then (op, (mayP W t s).2) else opP W (l.drop (k + 1)) s := by
  obtain ⟨hk, e⟩ := List.getElem?_eq_some_iff.1 h
  rw [List.drop_eq_getElem_cons hk, e]
  rfl
theorem mayP_no {W : Wds} {s : PSt} {t : ByteArray} (h : (mayP W t s).1 = false) : (mayP W t s).2 = s := by
  unfold mayP at h ⊢
  split at h
  · cases h
  · rename_i h1; rw [if_neg h1]
set_option maxRecDepth 100000 in
set_option maxHeartbeats 1000000 in
theorem pOp_any (gp gc gw : Nat) (W : Wds) (s : PSt) (l : List (ByteArray × Int)) (A B : Option Addr) (n ca cb : Nat) (w : World) (h : PAt gp gc gw W s w) (hl : LvAt gp gc w A ca B cb l) (hn : l.length = n) :
    Calls Tryz.prog 102 #[.agg #[.slice A n ca, .slice B n cb], .pointer (some ⟨gp, 0, none⟩)] w fun e w' => e = .returned (.int .i64 (opP W l s).1) ∧ PAt gp gc gw W (opP W l s).2 w' ∧ But (On2 gp gc) w w' := by
  have hnn := RowsAt.n_le hl.a
  rw [hn] at hnn
  obtain ⟨w1, Hw1⟩ : ∃ w1, Hid (w1 = w.alloc (.cells #[.slice A n ca, .slice B n cb] 109)) := ⟨_, rfl⟩
  have hb1 : Below w.heap.size w w1 := by rw [Hw1.out]; exact (Below.refl _ _).alloc (Nat.le_refl _) _
  have hk1 : IsBlk w1 w.heap.size 109 #[.slice A n ca, .slice B n cb] := by rw [Hw1.out]; exact IsBlk.laid _ _ _
  have h1 := h.below hb1
  have hl1 := hl.but (But.of_below hb1)
  have hgs : w.heap.size ≠ gp ∧ w.heap.size ≠ gc := by have := h.lt; omega
  have Hb1 := Lib.hid hb1
  have hx : ∀ W, But (On2 gp gc) w1 W → W.cell? ⟨w.heap.size, 0, none⟩ = some (.slice A n ca) ∧ W.cell? ⟨w.heap.size, 1, none⟩ = some (.slice B n cb) ∧ w.heap.size < W.heap.size := fun W hW => by
    have hk := hk1.as_was (hW.block _ hk1.lt (by rintro (e | e); exact hgs.1 e; exact hgs.2 e))
    have a0 := hk.cell 0
    have a1 := hk.cell 1
    simp at a0 a1
    exact ⟨a0, a1, hk.lt⟩
  have Hx := Lib.hid hx
  have Hl1 := Lib.hid hl1
  have Hn := Lib.hid hn
  have Hmay := Lib.hid (fun t w2 (hW : PAt gp gc gw W s w2) => pMay_any gp gc gw W s t w2 hW)
  obtain ⟨y0, y1, yl⟩ := hx _ (But.refl _ _)
  generalize hfin : opP W l s = fin
  have Hfin := Lib.hid hfin
  have H1 := Lib.hid h1
  clear h1 hl1 hk1 hb1 hx hgs hl hn h hfin
  go_enter Tryz.func102, Tryz.ntmps102
  go_upto_region 1 with (fail)
  rw [← Hw1.out]
  go_wp2
  go_loopw [10] (fun i wr => ∃ k : Nat, k ≤ n ∧ i = .int .i64 k ∧ PAt gp gc gw W s wr ∧ But (On2 gp gc) w1 wr ∧ Hid (opP W (l.drop k) s = fin)) (fun i _ => n - (intOf i).toNat)
  case atStart => exact ⟨0, Nat.zero_le _, rfl, H1.out, But.refl _ _, Lib.hid (by simpa using Hfin.out)⟩
  case round =>
    obtain ⟨k, hk, rfl, hP, hB, HF⟩ := hrel
    rcases Nat.lt_or_ge k n with hlt | hge
    · have hln := Hn.out
      have hlk : l[k]? = some (l[k]'(by omega)) := List.getElem?_eq_getElem _
      generalize l[k]'(by omega) = pr at hlk
      obtain ⟨t, op⟩ := pr
      have hl2 := Hl1.out.but hB
      obtain ⟨b, o, t', rfl, hbl, ht, hc⟩ := hl2.a.get (k := k) (by omega)
      rw [List.getElem?_map, hlk] at ht
      simp only [Option.map_some, Option.some.injEq] at ht
      subst ht
      obtain ⟨b2, o2, rfl, hops⟩ := hl2.op hlk
      have Hops := Lib.hid hops
      have hm := Hmay.out t wr hP
      have hop := opP_at (W := W) (s := s) hlk
      rw [HF.out] at hop
      obtain ⟨z0, z1, zl⟩ := Hx.out _ hB
      have HB := Lib.hid hB
      have Hmn := Lib.hid (mayP_no (W := W) (s := s) (t := t))
      cases hv : (mayP W t s).1 with
      | true =>
        rw [hv, if_pos rfl] at hop
        rw [hv] at hm
        have Hm := Lib.hid hm
        subst hop
        clear hm hv hlk hB hP hl2 hln hops
        go_wp2_with (go_at_call 46; refine Hm.out.mono ?_; rintro e w3 ⟨rfl, hP3, hB3⟩; obtain ⟨v0, v1, vl⟩ := Hx.out _ (HB.out.trans' hB3); obtain ⟨q0, q1⟩ := Hops.out _ hB3; have H3 := Lib.hid (And.intro hP3 hB3); clear hP3 hB3)
        go_ret
        exact ⟨rfl, H3.out.1, (But.of_below Hb1.out).trans' (HB.out.trans' H3.out.2)⟩
      | false =>
        rw [hv] at hop hm
        have hm2 := Hmn.out hv
        rw [hm2] at hm
        rw [if_neg (by decide)] at hop
        have Hm := Lib.hid hm
        have Hop := Lib.hid hop
        clear hm hv hlk hB hP hl2 hln hops hop hm2
        go_wp2_with (go_at_call 46; refine Hm.out.mono ?_; rintro e w3 ⟨rfl, hP3, hB3⟩; have H3 := Lib.hid (And.intro hP3 hB3); clear hP3 hB3)
        go_roundw
        case rel => exact ⟨k + 1, by omega, by simp, H3.out.1, HB.out.trans' H3.out.2, Lib.hid Hop.out.symm⟩
        case measure => simp [intOf]; omega
    · have hkn : k = n := by omega
      subst hkn
      have H3 := Lib.hid (And.intro hP hB)
      have hd := HF.out
      rw [List.drop_eq_nil_of_le (by have := Hn.out; omega)] at hd
      have Hd := Lib.hid hd
      clear hP hB hd
      go_wp2
      go_ret
      rw [← Hd.out]
      exact ⟨rfl, H3.out.1, (But.of_below Hb1.out).trans' H3.out.2⟩

theorem exs_lit {F : Nat → Prop} {d n g : Nat} {w : World} (T : TypeId) (rows : List (List Value)) (es : List Ex) (hg : g = w.heap.size) (hF : F g) (hn : es.length = n) (hn2 : n ≤ 1000) (hl : rows.length = es.length) (h : ∀ (k : Nat) (r : List Value) (x : Ex), rows[k]? = some r → es[k]? = some x → ExAt F d w r x) :
    ExsAt F d (w.alloc (.cells rows.flatten.toArray T)) (some ⟨g, 0, none⟩) n n es := by
  have hb := (Below.refl w.heap.size w).alloc (Nat.le_refl _) (.cells rows.flatten.toArray T)
  have h6 : ∀ (k : Nat) (r : List Value) (x : Ex), rows[k]? = some r → es[k]? = some x → r.length = 6 ∧ ExAt F d (w.alloc (.cells rows.flatten.toArray T)) r x := fun k r x h1 h2 => ⟨(h k r x h1 h2).len, (h k r x h1 h2).below hb⟩
  refine ⟨rows, RowsAt.lit' _ rows n hg (by simp) (fun r hr => ?_) (by omega) (by unfold maxLen; omega), fun a ha _ => by cases ha; exact hF, hl, h6⟩
  obtain ⟨k, hk, rfl⟩ := List.mem_iff_getElem.1 hr
  exact (h6 k _ _ (List.getElem?_eq_getElem hk) (List.getElem?_eq_getElem (by omega))).1
theorem ex_opn {F : Nat → Prop} {d : Nat} {w : World} {op : Int} {A : Option Addr} {n c : Nat} {es : List Ex} (h0 : 0 ≤ op) (h1 : op ≤ 100) (h : ExsAt F d w A n c es) : ExAt F (d + 1) w [.int .i64 op, .int .i64 0, .string ⟨#[]⟩, .string ⟨#[]⟩, .string ⟨#[]⟩, .slice A n c] (.mk op 0 nil0 nil0 nil0 es) := by
  have h2 : okS nil0 := by unfold okS; exact Nat.zero_le _
  exact ⟨⟨by show _ ≤ op; omega, by show op ≤ _; omega⟩, ⟨by show (_ : Int) ≤ 0; omega, by show (0 : Int) ≤ _; omega⟩, h2, h2, h2, A, n, c, rfl, h⟩
theorem sizeEx : (Tryz.prog.info? 41).map (·.size) = some 6 := by kernel_rfl
theorem ret_ex {fn : Func} {p : Tmp} {tmps : Array Value} {w : World} {g : Nat} {t : TypeId} {cs : Array Value} (h : fn.results = #[.cell p 41]) (hp : tmps.getD p undef = .pointer (some ⟨g, 0, none⟩)) (hk : IsBlk w g t cs) (hz : cs.size = 6) : (results fn tmps).run Tryz.prog w = .ok (.agg cs) w :=
  results_cell_row h tmps w g t cs (0, 0) _ hp hk Tryz.underlying41 rfl (by rw [hz]; exact sizeEx)
theorem ex_row6 {F : Nat → Prop} {d : Nat} {w : World} {row : List Value} {e : Ex} (h : ExAt F d w row e) : ∃ A m c, row = [.int .i64 e.op, .int .i64 e.n, .string e.s, .string e.name, .string e.src, .slice A m c] := by
  cases d with
  | zero => exact h.elim
  | succ d => obtain ⟨_, _, _, _, _, A, m, c, h, _⟩ := h.open_; exact ⟨A, m, c, h⟩
theorem blk_new {w : World} {g : Nat} {T : TypeId} {cs : Array Value} (hg : g = w.heap.size) : IsBlk (w.alloc (.cells cs T)) g T cs := by subst hg; exact IsBlk.laid _ _ _
set_option maxHeartbeats 1000000 in
theorem pTwo_any (F : Nat → Prop) (d : Nat) (op : Int) (a b : Ex) (ra rb : List Value) (w : World) (h0 : 0 ≤ op) (h1 : op ≤ 100) (ha : ExAt F d w ra a) (hb : ExAt F d w rb b) (hF : ∀ k, w.heap.size ≤ k → F k) :
    Calls Tryz.prog 103 #[.int .i64 op, .agg ra.toArray, .agg rb.toArray] w fun e w' => ∃ row, e = .returned (.agg row.toArray) ∧ ExAt F (d + 1) w' row (twoP op a b) ∧ Below w.heap.size w w' := by
  obtain ⟨A1, m1, c1, ea⟩ := ex_row6 ha
  obtain ⟨A2, m2, c2, eb⟩ := ex_row6 hb
  have hres : ∀ (W : World) (g : Nat), Below w.heap.size w W → g = W.heap.size → ExAt F (d + 1) (W.alloc (.cells (ra ++ rb).toArray 41)) [.int .i64 op, .int .i64 0, .string ⟨#[]⟩, .string ⟨#[]⟩, .string ⟨#[]⟩, .slice (some ⟨g, 0, none⟩) 2 2] (twoP op a b) := fun W g hW hg => by
    have h2 := exs_lit (n := 2) (w := W) 41 [ra, rb] [a, b] hg (hF _ (by have := hW.size; omega)) rfl (by omega) rfl (d := d) (F := F) (fun k r x h1 h2 => by
      rcases k with _ | _ | k
      · simp at h1 h2; subst h1 h2; exact ha.below hW
      · simp at h1 h2; subst h1 h2; exact hb.below hW
      · simp at h1)
    have e : [ra, rb].flatten = ra ++ rb := by simp
    rw [e] at h2
    exact ex_opn h0 h1 h2
  have Hres := Lib.hid hres
  clear hres ha hb
  subst ea eb
  go_enter Tryz.func103, Tryz.ntmps103
  go_wp2
  have hb3 : Below w.heap.size w (((w.alloc (.cells #[.int .i64 a.op, .int .i64 a.n, .string a.s, .string a.name, .string a.src, .slice A1 m1 c1] 41)).alloc (.cells #[.int .i64 b.op, .int .i64 b.n, .string b.s, .string b.name, .string b.src, .slice A2 m2 c2] 41)).alloc (.cells #[.int .i64 op, .int .i64 0, .string ⟨#[]⟩, .string ⟨#[]⟩, .string ⟨#[]⟩, .slice (some ⟨w.heap.size + 1 + 1 + 1, 0, none⟩) 2 2] 41)) :=
    (((Below.refl _ _).alloc (Nat.le_refl _) _).alloc (by simp) _).alloc (by simp; omega) _
  refine bodyPost_ret (v := .agg #[.int .i64 op, .int .i64 0, .string ⟨#[]⟩, .string ⟨#[]⟩, .string ⟨#[]⟩, .slice (some ⟨w.heap.size + 1 + 1 + 1, 0, none⟩) 2 2]) (ret_ex Tryz.results103 rfl ((blk_new (by simp)).alloc _) rfl) rfl ⟨_, rfl, Hres.out _ _ hb3 (by simp), hb3.alloc (by simp; omega) _⟩
end Go.Proofs.YtlakeanldbdedaaGreat

namespace Go.Afx
open Go.RowKit

theorem ExAt.turn {F F' : Nat → Prop} {w w' : World} (hF : ∀ k, k < w.heap.size → F k → F' k) (hk : Kept F w w') : ∀ (d : Nat) {d' : Nat} {r : List Value} {e : Ex}, d ≤ d' → ExAt F d w r e → ExAt F' d' w' r e := by
  intro d
  induction d with
  | zero => intro d' r e _ h; exact h.elim
  | succ d ih =>
    intro d' r e hd h
    obtain ⟨d', rfl⟩ : ∃ k, d' = k + 1 := ⟨d' - 1, by omega⟩
    obtain ⟨h1, h2, h3, h4, h5, A, m, c, hr, hl⟩ := h
    exact ⟨h1, h2, h3, h4, h5, A, m, c, hr, hl.conv hk (fun a ha h0 h => hF _ (hl.lt h0 a ha) h) fun r x _ hx => ih (by omega) hx⟩
theorem ExsAt.turn {F F' : Nat → Prop} {w w' : World} (hF : ∀ k, k < w.heap.size → F k → F' k) (hk : Kept F w w') {d d' : Nat} (hd : d ≤ d') {A : Option Addr} {n c : Nat} {es : List Ex} (h : ExsAt F d w A n c es) : ExsAt F' d' w' A n c es :=
  LsAt.conv h hk (fun a ha h0 hf => hF _ (LsAt.lt h h0 a ha) hf) fun _ _ _ hx => ExAt.turn hF hk d hd hx
theorem StAt.turn {F F' : Nat → Prop} {w w' : World} (hF : ∀ k, k < w.heap.size → F k → F' k) (hk : Kept F w w') : ∀ (d : Nat) {d' : Nat} {r : List Value} {e : St}, d ≤ d' → StAt F d w r e → StAt F' d' w' r e := by
  intro d
  induction d with
  | zero => intro d' r e _ h; exact h.elim
  | succ d ih =>
    intro d' r e hd h
    obtain ⟨d', rfl⟩ : ∃ k, d' = k + 1 := ⟨d' - 1, by omega⟩
    obtain ⟨h1, h2, h3, h4, Ac, nc, cc, Ae, ne, ce, Ab, nb, cb, Al, nl, cl, hr, k1, k2, k3, k4⟩ := h
    exact ⟨h1, h2, h3, h4, Ac, nc, cc, Ae, ne, ce, Ab, nb, cb, Al, nl, cl, hr, k1.conv hk (fun a ha h0 h => hF _ (k1.lt h0 a ha) h) (fun _ _ _ h => h), ExsAt.turn hF hk (by omega) k2,
      k3.conv hk (fun a ha h0 h => hF _ (k3.lt h0 a ha) h) (fun _ _ _ hx => ih (by omega) hx), k4.conv hk (fun a ha h0 h => hF _ (k4.lt h0 a ha) h) (fun _ _ _ hx => ih (by omega) hx)⟩
theorem StsAt.turn {F F' : Nat → Prop} {w w' : World} (hF : ∀ k, k < w.heap.size → F k → F' k) (hk : Kept F w w') {d d' : Nat} (hd : d ≤ d') {A : Option Addr} {n c : Nat} {es : List St} (h : StsAt F d w A n c es) : StsAt F' d' w' A n c es :=
  LsAt.conv h hk (fun a ha h0 hf => hF _ (LsAt.lt h h0 a ha) hf) fun _ _ _ hx => StAt.turn hF hk d hd hx

/-- the blocks of this hue -/
def Hu (hue : Nat → Nat) (i : Nat) : Nat → Prop := fun b => hue b = i
/-- what is new is of this hue -/
def hueNew (hue : Nat → Nat) (w : World) (i : Nat) : Nat → Nat := fun b => if b < w.heap.size then hue b else i
theorem hueNew_old {hue : Nat → Nat} {w : World} {i : Nat} : ∀ k, k < w.heap.size → hueNew hue w i k = hue k := fun _ hk => if_pos hk
theorem hueNew_new {hue : Nat → Nat} {w : World} {i k : Nat} (hk : w.heap.size ≤ k) : hueNew hue w i k = i := if_neg (by omega)

/-- 'the slice is the call's own, of the hue i, and holds these rows' -/
structure HueRow (hue : Nat → Nat) (i base : Nat) (w : World) (T : TypeId) (sz : Nat) (A : Option Addr) (n c : Nat) (rows : List (List Value)) : Prop where
  own : w.ownsRow base T sz (.slice A n c) n rows.flatten
  hue : ∀ a, A = some a → hue a.block = i
  len : rows.length = n
  wid : ∀ r ∈ rows, r.length = sz

section
variable {hue hue' : Nat → Nat} {i base : Nat} {w w' w2 : World} {T : TypeId} {sz : Nat} {A : Option Addr} {n c : Nat} {rows : List (List Value)} {S : Nat → Prop}
theorem HueRow.lt (h : HueRow hue i base w T sz A n c rows) : ∀ a, A = some a → a.block < w.heap.size := by
  intro a ha; subst ha; exact (h.own.lt a.block rfl).2
theorem HueRow.nil_ (hue : Nat → Nat) (i base : Nat) (w : World) (T : TypeId) (sz : Nat) : HueRow hue i base w T sz none 0 0 [] := ⟨World.ownsRow_nil _ _ _ _, (by intro a h; cases h), rfl, (by intro r h; cases h)⟩
theorem HueRow.at_ (h : HueRow hue i base w T sz A n c rows) : RowsAt w sz A n c rows := RowsAt.of_own h.own h.wid h.len
theorem HueRow.keep (h : HueRow hue i base w T sz A n c rows) (hb : But S w w') (hS : ∀ k, k < w.heap.size → S k → hue k ≠ i) (hh : ∀ k, k < w.heap.size → hue' k = hue k) : HueRow hue' i base w' T sz A n c rows := by
  refine ⟨own_but h.own hb fun g hg hs => ?_, fun a ha => ?_, h.len, h.wid⟩
  · cases A with
    | none => cases hg
    | some a =>
      have e : a.block = g := by simpa [Value.ownBlock] using hg
      subst e
      exact hS _ (h.lt a rfl) hs (h.hue a rfl)
  · rw [hh _ (h.lt a ha)]; exact h.hue a ha
/-- a row grows, and its slice is laid into a box -/
theorem HueRow.grow (h : HueRow hue i base w T sz A n c rows) {o : Obj} {A2 : Option Addr} {m c2 bt j : Nat} {news : List (List Value)} {u : Value}
    (hown : w2.ownsRow base T sz (.slice A2 (n + m) c2) (n + m) (rows ++ news).flatten) (hnl : news.length = m) (hnw : ∀ r ∈ news, r.length = sz) (hbut : But (fun k => A.map (·.block) = some k) (w.alloc o) w2)
    (hf : ∀ a2, A2 = some a2 → A = some a2 ∨ (w.alloc o).heap.size ≤ a2.block) (hbt : bt < w.heap.size) (hbi : hue bt ≠ i) :
    HueRow (hueNew hue w i) i base (w2.setCell ⟨bt, j, none⟩ u) T sz A2 (n + m) c2 (rows ++ news) ∧ But (fun k => hue k = i ∨ k = bt) w (w2.setCell ⟨bt, j, none⟩ u) := by
  have hz := hbut.size
  simp only [World.alloc, Array.size_push] at hz
  have hA2 : ∀ a2, A2 = some a2 → hueNew hue w i a2.block = i := by
    intro a2 ha
    rcases hf a2 ha with h1 | h1
    · rw [hueNew_old _ (h.lt a2 h1)]; exact h.hue a2 h1
    · simp only [World.alloc, Array.size_push] at h1; exact hueNew_new (by omega)
  have hb1 : But (fun k => hue k = i ∨ k = bt) w w2 := ((But.refl _ w).alloc o).trans hbut fun k hk => by
    cases A with
    | none => cases hk
    | some a =>
      have e : a.block = k := by simpa using hk
      subst e
      exact .inl (.inl (h.hue a rfl))
  refine ⟨⟨?_, hA2, by simp [h.len, hnl], fun r hr => ?_⟩, hb1.setCell (p := ⟨bt, j, none⟩) (.inl (.inr rfl)) u⟩
  · refine own_but hown ((But.refl (fun k => k = bt) w2).setCell (p := ⟨bt, j, none⟩) (.inl rfl) u) fun g hg e => ?_
    subst e
    cases A2 with
    | none => cases hg
    | some a2 =>
      have e : a2.block = g := by simpa [Value.ownBlock] using hg
      have h1 := hA2 a2 rfl
      rw [e, hueNew_old _ hbt] at h1
      exact hbi h1
  · rcases List.mem_append.1 hr with hr | hr
    · exact h.wid r hr
    · exact hnw r hr
end

/-- three lists that grow side by side: things, and two numbers of each -/
structure Tri {α : Type} (hue : Nat → Nat) (i base : Nat) (w : World) (T : TypeId) (sz : Nat) (TI : TypeId) (P : Nat → List Value → α → Prop) (tell : α → Int × Int) (A0 : Option Addr) (c0 : Nat) (A1 : Option Addr) (c1 : Nat) (A2 : Option Addr) (c2 : Nat) (xs : List α) : Prop where
  rows : ∃ rows, HueRow hue i base w T sz A0 xs.length c0 rows ∧ ∀ (k : Nat) (r : List Value) (x : α), rows[k]? = some r → xs[k]? = some x → P k r x
  nodes : HueRow hue (i + 1) base w TI 1 A1 xs.length c1 (xs.map fun x => [.int .i64 (tell x).1])
  deep : HueRow hue (i + 2) base w TI 1 A2 xs.length c2 (xs.map fun x => [.int .i64 (tell x).2])

section
variable {α : Type} {hue hue' : Nat → Nat} {i base : Nat} {w w' : World} {T : TypeId} {sz : Nat} {TI : TypeId} {P P' : Nat → List Value → α → Prop} {tell : α → Int × Int} {A0 A1 A2 : Option Addr} {c0 c1 c2 : Nat} {xs : List α} {S : Nat → Prop}
theorem Tri.nil_ (hue : Nat → Nat) (i base : Nat) (w : World) (T : TypeId) (sz : Nat) (TI : TypeId) (P : Nat → List Value → α → Prop) (tell : α → Int × Int) : Tri hue i base w T sz TI P tell none 0 none 0 none 0 [] :=
  ⟨⟨[], HueRow.nil_ _ _ _ _ _ _, fun k r x h => by simp at h⟩, HueRow.nil_ _ _ _ _ _ _, HueRow.nil_ _ _ _ _ _ _⟩
theorem Tri.keep (h : Tri hue i base w T sz TI P tell A0 c0 A1 c1 A2 c2 xs) (hb : But S w w') (hS : ∀ k, k < w.heap.size → S k → hue k ≠ i ∧ hue k ≠ i + 1 ∧ hue k ≠ i + 2) (hh : ∀ k, k < w.heap.size → hue' k = hue k) (hP : ∀ k r x, x ∈ xs → P k r x → P' k r x) :
    Tri hue' i base w' T sz TI P' tell A0 c0 A1 c1 A2 c2 xs := by
  obtain ⟨⟨rows, h1, h2⟩, h3, h4⟩ := h
  exact ⟨⟨rows, h1.keep hb (fun k hk hs => (hS k hk hs).1) hh, fun k r x hr hx => hP k r x (List.mem_of_getElem? hx) (h2 k r x hr hx)⟩, h3.keep hb (fun k hk hs => (hS k hk hs).2.1) hh, h4.keep hb (fun k hk hs => (hS k hk hs).2.2) hh⟩
theorem Tri.get (h : Tri hue i base w T sz TI P tell A0 c0 A1 c1 A2 c2 xs) {k : Nat} (hk : k < xs.length) :
    ∃ b0 b1 b2 r x, A0 = some ⟨b0, 0, none⟩ ∧ A1 = some ⟨b1, 0, none⟩ ∧ A2 = some ⟨b2, 0, none⟩ ∧ b0 < w.heap.size ∧ b1 < w.heap.size ∧ b2 < w.heap.size ∧ xs[k]? = some x ∧ r.length = sz ∧ P k r x ∧ (∀ j u, r[j]? = some u → w.cell? ⟨b0, k * sz + j, none⟩ = some u) ∧
      w.cell? ⟨b1, k, none⟩ = some (.int .i64 (tell x).1) ∧ w.cell? ⟨b2, k, none⟩ = some (.int .i64 (tell x).2) ∧ hue b0 = i ∧ hue b1 = i + 1 ∧ hue b2 = i + 2 := by
  obtain ⟨⟨rows, h1, h2⟩, h3, h4⟩ := h
  have hx : xs[k]? = some xs[k] := List.getElem?_eq_getElem hk
  have hr : rows[k]? = some (rows[k]'(by have := h1.len; omega)) := List.getElem?_eq_getElem _
  obtain ⟨g0, cap0, e0, _⟩ := h1.own.form (by omega)
  obtain ⟨g1, cap1, e1, _⟩ := h3.own.form (by omega)
  obtain ⟨g2, cap2, e2, _⟩ := h4.own.form (by omega)
  simp only [Value.slice.injEq] at e0 e1 e2
  obtain ⟨rfl, _, rfl⟩ := e0
  obtain ⟨rfl, _, rfl⟩ := e1
  obtain ⟨rfl, _, rfl⟩ := e2
  obtain ⟨b, o, hA, hb, hc⟩ := h1.at_.at_ k _ hr
  obtain ⟨b', o', hA', hb', hc'⟩ := h3.at_.one (u := .int .i64 (tell xs[k]).1) (k := k) (by rw [List.getElem?_map, hx]; rfl)
  obtain ⟨b'', o'', hA'', hb'', hc''⟩ := h4.at_.one (u := .int .i64 (tell xs[k]).2) (k := k) (by rw [List.getElem?_map, hx]; rfl)
  simp only [Option.some.injEq, Addr.mk.injEq, and_true] at hA hA' hA''
  obtain ⟨rfl, rfl⟩ := hA
  obtain ⟨rfl, rfl⟩ := hA'
  obtain ⟨rfl, rfl⟩ := hA''
  exact ⟨_, _, _, _, _, rfl, rfl, rfl, hb, hb', hb'', hx, h1.wid _ (List.mem_of_getElem? hr), h2 k _ _ hr hx, fun j u hj => by simpa using hc j u hj, by simpa using hc', by simpa using hc'', h1.hue _ rfl, h3.hue _ rfl, h4.hue _ rfl⟩
/-- what is grown to its end is a list -/
theorem Tri.lists {F : Nat → Prop} {Q : List Value → α → Prop} (h : Tri hue i base w T sz TI P tell A0 c0 A1 c1 A2 c2 xs) (hF : ∀ k, k < w.heap.size → (hue k = i ∨ hue k = i + 1 ∨ hue k = i + 2) → F k) (hQ : ∀ k r x, k < xs.length → P k r x → Q r x) (htell : ∀ x, okI (tell x).1 ∧ okI (tell x).2) :
    LsAt F w sz Q A0 xs.length c0 xs ∧ LsAt F w 1 IRow A1 xs.length c1 (xs.map fun x => (tell x).1) ∧ LsAt F w 1 IRow A2 xs.length c2 (xs.map fun x => (tell x).2) := by
  obtain ⟨⟨rows, h1, h2⟩, h3, h4⟩ := h
  refine ⟨⟨rows, h1.at_, fun a ha _ => hF _ (h1.lt a ha) (.inl (h1.hue a ha)), h1.len, fun k r x hr hx => ⟨h1.wid r (List.mem_of_getElem? hr), hQ k r x (List.getElem?_eq_some_iff.1 hx).1 (h2 k r x hr hx)⟩⟩,
    ⟨_, h3.at_, fun a ha _ => hF _ (h3.lt a ha) (.inr (.inl (h3.hue a ha))), by simp, fun k r x hr hx => ?_⟩, ⟨_, h4.at_, fun a ha _ => hF _ (h4.lt a ha) (.inr (.inr (h4.hue a ha))), by simp, fun k r x hr hx => ?_⟩⟩
  · rw [List.getElem?_map] at hr hx
    obtain ⟨y, hy, rfl⟩ := Option.map_eq_some_iff.1 hr
    rw [hy] at hx
    injection hx with hx
    subst hx
    exact ⟨rfl, rfl, (htell y).1⟩
  · rw [List.getElem?_map] at hr hx
    obtain ⟨y, hy, rfl⟩ := Option.map_eq_some_iff.1 hr
    rw [hy] at hx
    injection hx with hx
    subst hx
    exact ⟨rfl, rfl, (htell y).2⟩
end
end Go.Afx
