/- Parts of this proof, one behind the other: ParZ7, LwP, SmA. -/
import Derived.Test.YtlakeanldbdedaaGreatPr46
import Derived.Test.YtlakeanldbdedaaGreatPr36
import Derived.StillTailTactics
import Derived.Deep.Cut
namespace Go.Proofs.YtlakeanldbdedaaGreat
open Go.RowKit Go.Afx


theorem textX_right {α : Type} {z : α} {right : α → Bool} {run : Wds → PSt → α × PSt} {L : List UInt8} (h : (textX z right run L).2.2 = 0) : right (textX z right run L).1 = true := by
  unfold textX at h ⊢
  split at h
  · cases h
  · rename_i h8
    rw [if_neg h8]
    split at h
    · cases h
    · rename_i ws hl
      unfold endX at h ⊢
      simp only
      split at h
      · cases h
      · rename_i h1
        rw [if_neg h1]
        split at h
        · cases h
        · rename_i h2
          rw [if_neg h2]
          split at h
          · rename_i h3; rw [if_pos h3]; exact h3
          · cases h
theorem textX_zero {α : Type} (z : α) (right : α → Bool) (run : Wds → PSt → α × PSt) (L : List UInt8) : ((textX z right run L).2.2 = 0 → (textX z right run L).2.1 = 0) ∧ ((textX z right run L).2.2 ≠ 0 → (textX z right run L).1 = z) := by
  unfold textX
  split
  · exact ⟨fun h => (by cases h), fun _ => rfl⟩
  · split
    · exact ⟨fun h => (by cases h), fun _ => rfl⟩
    · unfold endX
      split
      · exact ⟨fun h => (by cases h), fun _ => rfl⟩
      · split
        · exact ⟨fun h => (by cases h), fun _ => rfl⟩
        · split
          · exact ⟨fun _ => rfl, fun h => absurd rfl h⟩
          · exact ⟨fun h => (by cases h), fun _ => rfl⟩

theorem ret_Proc3 {fn : Func} {p u v : Tmp} {tmps : Array Value} {w : World} {g : Nat} {t : TypeId} {cs : Array Value} {x y : Value} (h : fn.results = #[.cell p 25, .tmp u, .tmp v]) (hp : tmps.getD p undef = .pointer (some ⟨g, 0, none⟩)) (hk : IsBlk w g t cs) (hz : cs.size = 6) (hv : tmps.getD u undef = x) (hy : tmps.getD v undef = y) : (results fn tmps).run Tryz.prog w = .ok (.tuple #[.agg cs, x, y]) w := by
  have h2 := run_loadVar_row (P := Tryz.prog) w g t 25 cs (0, 0) _ hk Tryz.underlying25 rfl (by rw [hz]; exact sizePr)
  simp only [results, h]
  have e1 : tmps[p]?.getD undef = .pointer (some ⟨g, 0, none⟩) := by simpa using hp
  have e2 : tmps[u]?.getD undef = x := by simpa using hv
  have e3 : tmps[v]?.getD undef = y := by simpa using hy
  simp [Result.andThen, e1, e2, e3, asAddr, h2]
/-- what a text's answer is -/
def ProcGives (w : World) (x : Pr × Int × Int) (e : Ending) (w' : World) : Prop := (∃ row, e = .returned (.tuple #[.agg row.toArray, .int .i64 x.2.1, .int .i64 x.2.2]) ∧ PrAt (Fr w) 9000 w' row x.1) ∧ Below w.heap.size w w' ∧ x.1.params.length ≤ 1000000

theorem pr0_at (F : Nat → Prop) (w : World) : PrAt F 9000 w [.string ⟨#[]⟩, .string ⟨#[]⟩, .string ⟨#[]⟩, .int .i64 0, .slice none 0 0, .slice none 0 0] pr0 := ⟨okS_0, okS_0, okS_0, okI_0, none, 0, 0, none, 0, 0, rfl, LsAt.nil_ _ _ _ _, sts_nil _ _ _⟩

set_option maxRecDepth 100000 in
set_option maxHeartbeats 4000000 in
theorem parseProc_any (s : ByteArray) (w : World) : Calls Tryz.prog 7 #[.string s] w (ProcGives w (procX s.data.toList)) := by
  obtain ⟨w1, Hw1⟩ : ∃ w1, Hid (w1 = (w.alloc (.cells zeroP 25)).alloc (.cells zeroP 25)) := ⟨_, rfl⟩
  have hb1 : Below w.heap.size w w1 := by rw [Hw1.out]; exact ((Below.refl _ _).alloc (Nat.le_refl _) _).alloc (by simp) _
  have hkr : IsBlk w1 w.heap.size 25 zeroP := by rw [Hw1.out]; exact (IsBlk.laid _ _ _).alloc _
  have hkx : IsBlk w1 (w.heap.size + 1) 25 zeroP := by rw [Hw1.out]; exact blk_new (by simp)
  have hsz : w1.heap.size = w.heap.size + 2 := by rw [Hw1.out]; simp
  have hp := parsedProc_any s (w.heap.size + 1) w.heap.size w1 hkx (by omega)
  have hz := textX_zero pr0 (rightB 9000) procP s.data.toList
  have hz : ((procX s.data.toList).2.2 = 0 → (procX s.data.toList).2.1 = 0) ∧ ((procX s.data.toList).2.2 ≠ 0 → (procX s.data.toList).1 = pr0) := hz
  generalize procX s.data.toList = x at *
  obtain ⟨p, at_, er⟩ := x
  simp only at hz
  have Hp := Lib.hid hp
  have Hz := Lib.hid hz
  have Hk := Lib.hid (And.intro hb1 (And.intro hkr hsz))
  clear hp hz hb1 hkr hkx hsz
  go_enter Tryz.func7, Tryz.ntmps7
  go_upto_region 2 with (fail)
  rw [← Hw1.out]
  go_wp2_with (fail)
  refine Hp.out.mono ?_
  rintro e w2 ⟨rfl, hB, hpr⟩
  have hsz := Hk.out.2.2
  have hkr2 := Hk.out.2.1.as_was (hB.block _ Hk.out.2.1.lt (by omega))
  obtain ⟨x0, x1, x2, x3, x4, x5, xl⟩ := cells6 hkr2
  have f2 := hkr2.frozen
  have hb2 : Below w.heap.size w w2 := Hk.out.1.trans (hB.below' (by omega) (fun i hi => by omega))
  have H2 := Lib.hid (And.intro hkr2 hb2)
  have Hpr := Lib.hid hpr
  clear hB hpr hsz hkr2 hb2
  have hlay : ∀ (v0 v1 v2 v3 v4 v5 : Value), Below w.heap.size w (lay6 w2 w.heap.size v0 v1 v2 v3 v4 v5) := fun v0 v1 v2 v3 v4 v5 => H2.out.2.trans ((lay6_but w2 w.heap.size v0 v1 v2 v3 v4 v5).below' H2.out.2.size (fun i hi => by omega))
  have Hlay := Lib.hid hlay
  clear hlay
  rcases Classical.em (er = 0) with he | he
  · have q0 : (er == 0) = true := by rw [beq_iff_eq]; exact he
    have q1 : (er != 0) = false := by simp [he]
    obtain ⟨⟨row, hkx, hpr⟩, hfew⟩ := Hpr.out he
    have hat := Hz.out.1 he
    subst hat
    subst he
    have hprw := hpr

    obtain ⟨_, _, _, _, Ap, np, cp, Ab, nb, cb, rfl, _⟩ := hprw

    obtain ⟨y0, y1, y2, y3, y4, y5, yl⟩ := cells6 hkx
    have Hpr2 := Lib.hid hpr

    have Hfew := Lib.hid hfew
    clear hfew

    clear hpr hkx q0 q1
    go_wp2
    rw [lay6_eq]
    refine bodyPost_ret (ret_Proc3 Tryz.results7 rfl (lay6_blk _ _ _ _ _ _ H2.out.1) rfl rfl rfl) rfl ⟨⟨_, rfl, ?_⟩, Hlay.out _ _ _ _ _ _, Hfew.out⟩
    exact PrAt.conv (fun k (hk : w1.heap.size ≤ k) => by show w.heap.size ≤ k; have := Hk.out.2.2; omega) (Kept.of_but (lay6_but w2 w.heap.size _ _ _ _ _ _) fun k (hk : w1.heap.size ≤ k) e => by have := Hk.out.2.2; omega) (Nat.le_refl 9000) Hpr2.out
  · have q1 : (er != 0) = true := by simpa using he
    have q0 : (er == 0) = false := by simpa using he
    have hz := Hz.out.2 he
    subst hz
    clear he
    go_wp2
    rw [lay6_eq]
    exact bodyPost_ret (ret_Proc3 Tryz.results7 rfl (lay6_blk _ _ _ _ _ _ H2.out.1) rfl rfl rfl) rfl ⟨⟨_, rfl, pr0_at _ _⟩, Hlay.out _ _ _ _ _ _, Nat.zero_le _⟩
end Go.Proofs.YtlakeanldbdedaaGreat

namespace Go.Proofs.YtlakeanldbdedaaGreat
open Go.RowKit Go.Afx

/-- at this place of a text a byte stands that is no blank -/
def NoBlank (L : List UInt8) (k : Nat) : Prop := k < L.length ∧ ∃ c, L[k]? = some c ∧ wsB c = false
theorem lexH_at (L : List UInt8) : ∀ (f at_ : Nat), at_ ≤ L.length → L.length - at_ < f → (∀ c, (L.drop at_).head? = some c → wsB c = false) → match lexH f at_ (L.drop at_) with
    | .inl a => NoBlank L a
    | .inr ws => ∀ x ∈ ws, ∃ k : Nat, x.at_ = k ∧ NoBlank L k := by
  intro f
  induction f with
  | zero => intro at_ h1 h2; omega
  | succ f ih =>
    intro at_ h1 h2 h3
    rcases Nat.lt_or_ge at_ L.length with hlt | hge
    · have hd : L.drop at_ = L[at_] :: L.drop (at_ + 1) := List.drop_eq_getElem_cons hlt
      have hnb : NoBlank L at_ := ⟨hlt, L[at_], List.getElem?_eq_getElem hlt, h3 _ (by rw [hd]; rfl)⟩
      rw [lexH_go _ _ _ (by rw [hd]; exact List.cons_ne_nil _ _)]
      cases hn : nextX (L.drop at_) with
      | none => exact hnb
      | some x =>
        obtain ⟨l1, l2⟩ := next_len hn
        rw [List.length_drop] at l2
        simp only
        rw [List.drop_drop]
        have hb := blk_le (L.drop (at_ + x.len)) false
        have hs := (blk_stop (L.drop (at_ + x.len))).1
        rw [List.length_drop] at hb
        rw [List.drop_drop] at hs ⊢
        have h4 := ih (at_ + x.len + blk false (L.drop (at_ + x.len))) (by omega) (by omega) hs
        cases hr : lexH f (at_ + x.len + blk false (L.drop (at_ + x.len))) (L.drop (at_ + x.len + blk false (L.drop (at_ + x.len)))) with
        | inl a => rw [hr] at h4; exact h4
        | inr ws =>
          rw [hr] at h4
          intro y hy
          rcases List.mem_cons.1 hy with rfl | hy
          · exact ⟨at_, rfl, hnb⟩
          · exact h4 y hy
    · rw [List.drop_eq_nil_of_le hge]
      intro y hy
      cases hy
theorem lexL_at (L : List UInt8) : match lexL L with
    | .inl a => NoBlank L a
    | .inr ws => ∀ x ∈ ws, ∃ k : Nat, x.at_ = k ∧ NoBlank L k :=
  lexH_at L (L.length + 1) (blk false L) (blk_le L false) (by omega) (blk_stop L).1
/-- what is told of a text: 0 none's wrong, 5 too long, 14 too deep, 12 where -/
def PosSaid (L : List UInt8) (at_ er : Int) : Prop :=
  (er = 0 ∧ at_ = 0) ∨ (er = 5 ∧ at_ = 0 ∧ 8000 < L.length) ∨ (er = 14 ∧ at_ = 0 ∧ ¬ 8000 < L.length) ∨ (er = 12 ∧ ∃ k : Nat, at_ = k ∧ (k = L.length ∨ NoBlank L k))
theorem textX_said {α : Type} (z : α) (right : α → Bool) (run : Wds → PSt → α × PSt) (L : List UInt8) : PosSaid L (textX z right run L).2.1 (textX z right run L).2.2 := by
  have hl := lexL_at L
  unfold textX
  split
  · rename_i h; exact .inr (.inl ⟨rfl, rfl, h⟩)
  · rename_i h
    split
    · rename_i a ha
      rw [ha] at hl
      exact .inr (.inr (.inr ⟨rfl, a, rfl, .inr hl⟩))
    · rename_i ws hw
      rw [hw] at hl
      unfold endX
      split
      · exact .inr (.inr (.inl ⟨rfl, rfl, h⟩))
      · split
        · refine .inr (.inr (.inr ⟨rfl, ?_⟩))
          generalize (run ⟨ws, L.length⟩ PSt.start).2.at_ = i
          rcases Nat.lt_or_ge i ws.length with hi | hi
          · rw [look_in (x := ws[i]) (List.getElem?_eq_getElem hi)]
            obtain ⟨k, h1, h2⟩ := hl _ (List.getElem_mem hi)
            exact ⟨k, h1, .inr h2⟩
          · rw [look_end hi]
            exact ⟨L.length, rfl, .inl rfl⟩
        · split
          · exact .inl ⟨rfl, rfl⟩
          · exact .inr (.inr (.inl ⟨rfl, rfl, h⟩))
end Go.Proofs.YtlakeanldbdedaaGreat

namespace Go.Proofs.YtlakeanldbdedaaGreat
open Go.RowKit Go.Afx

theorem blk6 {w : World} {g : Nat} {T : TypeId} {v0 v1 v2 v3 v4 v5 : Value} (h : IsBlk w g T #[v0, v1, v2, v3, v4, v5]) : w.cell? ⟨g, 0, none⟩ = some v0 ∧ w.cell? ⟨g, 1, none⟩ = some v1 ∧ w.cell? ⟨g, 2, none⟩ = some v2 ∧ w.cell? ⟨g, 3, none⟩ = some v3 ∧ w.cell? ⟨g, 4, none⟩ = some v4 ∧ w.cell? ⟨g, 5, none⟩ = some v5 ∧ g < w.heap.size := by
  have h0 := h.cell 0; have h1 := h.cell 1; have h2 := h.cell 2; have h3 := h.cell 3; have h4 := h.cell 4; have h5 := h.cell 5
  simp at h0 h1 h2 h3 h4 h5
  exact ⟨h0, h1, h2, h3, h4, h5, h.lt⟩
def TrueB (w : World) (x : Ending) (w' : World) : Prop := x = .returned (.bool true) ∧ Below w.heap.size w w'
set_option maxRecDepth 100000 in
set_option maxHeartbeats 4000000 in
theorem oneE_any (F G : Nat → Prop) : ∀ (d : Nat) (e : Ex) (r1 r2 : List Value) (w : World), ExAt F d w r1 e → ExAt G d w r2 e → Calls Tryz.prog 12 #[.agg r1.toArray, .agg r2.toArray] w (TrueB w) := by
  intro d
  induction d with
  | zero => intro e r1 r2 w h; exact h.elim
  | succ d ih =>
    intro e r1 r2 w h1 h2
    obtain ⟨_, _, _, _, _, A, n, c, rfl, hl1⟩ := h1.open_
    obtain ⟨_, _, _, _, _, A', n', c', rfl, hl2⟩ := h2.open_
    obtain rfl : n = n' := by rw [← LsAt.len hl1, ← LsAt.len hl2]
    have hn := LsAt.n_le hl1
    obtain ⟨w1, Hw1⟩ : ∃ w1, Hid (w1 = (w.alloc (.cells #[.int .i64 e.op, .int .i64 e.n, .string e.s, .string e.name, .string e.src, .slice A n c] 41)).alloc (.cells #[.int .i64 e.op, .int .i64 e.n, .string e.s, .string e.name, .string e.src, .slice A' n c'] 41)) := ⟨_, rfl⟩
    have hb1 : Below w.heap.size w w1 := by rw [Hw1.out]; exact ((Below.refl _ _).alloc (Nat.le_refl _) _).alloc (by simp) _
    have hkx : IsBlk w1 w.heap.size 41 #[.int .i64 e.op, .int .i64 e.n, .string e.s, .string e.name, .string e.src, .slice A n c] := by rw [Hw1.out]; exact (IsBlk.laid _ _ _).alloc _
    have hky : IsBlk w1 (w.heap.size + 1) 41 #[.int .i64 e.op, .int .i64 e.n, .string e.s, .string e.name, .string e.src, .slice A' n c'] := by
      rw [Hw1.out]
      have h := IsBlk.laid (w.alloc (.cells #[.int .i64 e.op, .int .i64 e.n, .string e.s, .string e.name, .string e.src, .slice A n c] 41)) 41 #[.int .i64 e.op, .int .i64 e.n, .string e.s, .string e.name, .string e.src, .slice A' n c']
      simpa using h
    obtain ⟨x0, x1, x2, x3, x4, x5, xl⟩ := blk6 hkx
    obtain ⟨y0, y1, y2, y3, y4, y5, yl⟩ := blk6 hky
    have Hb1 := Lib.hid hb1
    have Hkx := Lib.hid hkx
    have Hky := Lib.hid hky
    have Hl := Lib.hid (And.intro hl1 hl2)
    have Hih := Lib.hid ih
    clear hb1 hkx hky hl1 hl2 ih h1 h2
    go_enter Tryz.func12, Tryz.ntmps12
    go_upto_region 1 with (fail)
    rw [← Hw1.out]
    go_wp2
    clear x0 x1 x2 x3 x4 x5 xl y0 y1 y2 y3 y4 y5 yl
    go_loopw [5] (fun i wr => ∃ k : Nat, k ≤ n ∧ i = .int .i64 k ∧ Below w1.heap.size w1 wr) (fun i _ => n - (intOf i).toNat)
    case atStart => exact ⟨0, Nat.zero_le _, rfl, Below.refl _ _⟩
    case round =>
      obtain ⟨k, hk, rfl, hb⟩ := hrel
      have hkx := Hkx.out.as_was (hb.block _ Hkx.out.lt)
      have hky := Hky.out.as_was (hb.block _ Hky.out.lt)
      obtain ⟨x0, x1, x2, x3, x4, x5, xl⟩ := blk6 hkx
      obtain ⟨y0, y1, y2, y3, y4, y5, yl⟩ := blk6 hky
      have hbb := Hb1.out.trans (hb.mono Hb1.out.size)
      by_cases hlt : k < n
      · have hl1 := ExsAt.below Hl.out.1 hbb
        have hl2 := ExsAt.below Hl.out.2 hbb
        cases d with
        | zero =>
          obtain ⟨b, o, r, x, _, _, _, _, _, hp, _⟩ := LsAt.get hl1 hlt
          exact hp.elim
        | succ d =>
          obtain ⟨b, o, x, A2, m2, c2, rfl, hbl, hx, z0, z1, z2, z3, z4, z5, hxx, _⟩ := hl1.get hlt
          obtain ⟨b', o', x', A3, m3, c3, rfl, hbl', hx', v0, v1, v2, v3, v4, v5, hyy, _⟩ := hl2.get hlt
          obtain rfl : x = x' := Option.some.inj (hx.symm.trans hx')
          have hc := Hih.out x _ _ wr.drew (ExAt.below hxx (Below.refl _ _).drew) (ExAt.below hyy (Below.refl _ _).drew)
          have Hc := Lib.hid hc
          have Hb := Lib.hid hb
          clear hc hl1 hl2 hxx hyy hx hx' hbb hkx hky hb
          go_upto_region 6 with (fail)
          go_still_tail 10, (by kernel_rfl)
          change wpList _ _ _ _ _ wr.drew
          go_wp2_with (fail)
          refine Hc.out.mono ?_
          rintro y w4 ⟨rfl, hb4⟩
          have Hb4 := Lib.hid (Hb.out.trans (((Below.refl wr.heap.size wr).drew.trans hb4).mono Hb.out.size))
          clear hb4
          go_wp2
          go_roundw
          case rel => exact ⟨k + 1, by omega, by go_num, Hb4.out⟩
          case measure => simp [intOf]; omega
      · have Hbb := Lib.hid hbb
        clear hkx hky hbb hb
        go_wp2
        go_ret
        exact ⟨rfl, Hbb.out⟩
end Go.Proofs.YtlakeanldbdedaaGreat
