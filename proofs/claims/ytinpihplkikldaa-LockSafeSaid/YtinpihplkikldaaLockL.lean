/- Lock, part L: Grant. -/
import Derived.Test.YtinpihplkikldaaLockK
namespace Go.Proofs.Ytinpihplkikldaa
open Go.RowKit Go.Afx

def IAt' (w : World) (A : Option Addr) (n c : Nat) (xs : List Int) : Prop := RowsAt w 1 A n c (xs.map irow)
theorem IAt'.get {w : World} {A : Option Addr} {n c : Nat} {xs : List Int} (h : IAt' w A n c xs) {k : Nat} (hk : k < n) : ∃ b o x, A = some ⟨b, o, none⟩ ∧ b < w.heap.size ∧ xs[k]? = some x ∧ w.cell? ⟨b, o + k, none⟩ = some (.int .i64 x) := by
  have hl := h.len
  rw [List.length_map] at hl
  obtain ⟨x, e⟩ : ∃ x, xs[k]? = some x := ⟨_, List.getElem?_eq_getElem (by omega)⟩
  obtain ⟨b, o, rfl, hb, hc⟩ := RowsAt.one (u := .int .i64 x) h (k := k) (by rw [List.getElem?_map, e]; rfl)
  exact ⟨b, o, x, rfl, hb, e, hc⟩

def holdT (T : List AskD) (k : Nat) : List AskD := T.modify k fun a => { a with held := true }

def grantT (T : List AskD) : List Int → Int × List AskD
  | [] => (0, T)
  | id :: r => if findT T id < 0 then (8, T) else if heldT T (findT T id).toNat then (8, T) else if readyT T (findT T id).toNat then grantT (holdT T (findT T id).toNat) r else (18, T)

theorem flatten_set (xs : List (List Value)) (sz : Nat) : (∀ r ∈ xs, r.length = sz) → ∀ k j (row : List Value) (u : Value), xs[k]? = some row → j < sz → xs.flatten.set (k * sz + j) u = (xs.set k (row.set j u)).flatten := by
  induction xs with
  | nil => intro _ k j row u h; simp at h
  | cons r xs ih =>
    intro h k j row u hk hj
    have hr : r.length = sz := h r (by simp)
    cases k with
    | zero =>
      simp at hk; subst hk
      rw [List.flatten_cons, List.set_append_left _ _ (by omega)]
      simp
    | succ k =>
      rw [List.flatten_cons, List.set_append_right _ _ (by rw [hr, Nat.succ_mul]; omega), hr]
      have e : (k + 1) * sz + j - sz = k * sz + j := by rw [Nat.succ_mul]; omega
      rw [e, ih (fun r hr => h r (by simp [hr])) k j row u (by simpa using hk) hj]
      simp

theorem TblAt.hold {w : World} {base p n c k g : Nat} {T : List AskD} {rows : List (List Value)} {a : AskD} {Ak : Option Addr} {ck : Nat} (h : TblAt w base p (some ⟨g, 0, none⟩) n c T rows) (hk : T[k]? = some a) (hr : rows[k]? = some [.slice Ak a.ws.length ck, .int .i64 a.id, .bool a.held]) :
    TblAt (w.setCell ⟨g, k * 3 + 2, none⟩ (.bool true)) base p (some ⟨g, 0, none⟩) n c (holdT T k) (rows.set k [.slice Ak a.ws.length ck, .int .i64 a.id, .bool true]) := by
  have hgp : g ≠ p := h.apart _ rfl
  have hst := (h.own.stored (k * 3 + 2) (.bool true)).1
  rw [flatten_set rows 3 h.rowLen k 2 _ _ hr (by omega)] at hst
  have hkr : k < rows.length := (List.getElem?_eq_some_iff.1 hr).1
  refine ⟨h.blk.elsewhere (fun e => hgp e.symm) _, h.hp, hst, by rw [holdT, List.length_modify, h.lenT], by rw [List.length_set, h.lenR], h.apart, fun j b hj => ?_⟩
  unfold holdT at hj
  rw [List.getElem?_modify] at hj
  have keep : ∀ (Aj : Option Addr) (nj cj : Nat) (ws : List Wt), WAt w Aj nj cj ws → (∀ ad, Aj = some ad → 0 < nj → ∃ cs, IsBlk w ad.block 31 cs) → WAt (w.setCell ⟨g, k * 3 + 2, none⟩ (.bool true)) Aj nj cj ws ∧ (∀ ad, Aj = some ad → 0 < nj → ∃ cs, IsBlk (w.setCell ⟨g, k * 3 + 2, none⟩ (.bool true)) ad.block 31 cs) := fun Aj nj cj ws hw hap => by
    have hoff : ∀ ad, Aj = some ad → 0 < nj → ad.block ≠ g := fun ad e h0 e2 => by
      obtain ⟨cs, hc⟩ := hap ad e h0
      exact (h.off hc).2 (by simp [e2])
    refine ⟨RowsAt.but hw ((But.refl (fun i => i = g) w).setCell (p := ⟨g, k * 3 + 2, none⟩) (.inl rfl) _) (fun ad e h0 e2 => hoff ad e h0 e2), fun ad e h0 => ?_⟩
    obtain ⟨cs, hc⟩ := hap ad e h0
    exact ⟨cs, hc.elsewhere (p := ⟨g, k * 3 + 2, none⟩) (hoff ad e h0) _⟩
  by_cases hjk : k = j
  · subst hjk
    rw [hk] at hj
    simp at hj
    subst hj
    obtain ⟨Aj, nj, cj, hr2, hw2, hs2, hl2, hap2⟩ := h.at_ k a hk
    rw [hr] at hr2
    simp only [Option.some.injEq, List.cons.injEq, Value.slice.injEq, and_true] at hr2
    obtain ⟨rfl, rfl, rfl⟩ := hr2
    exact ⟨Ak, _, ck, by rw [List.getElem?_set_self hkr], (keep _ _ _ _ hw2 hap2).1, hs2, hl2, (keep _ _ _ _ hw2 hap2).2⟩
  · have hj : T[j]? = some b := by simpa [hjk] using hj
    obtain ⟨Aj, nj, cj, hr2, hw2, hs2, hl2, hap2⟩ := h.at_ j b hj
    exact ⟨Aj, nj, cj, by rw [List.getElem?_set_ne hjk]; exact hr2, (keep _ _ _ _ hw2 hap2).1, hs2, hl2, (keep _ _ _ _ hw2 hap2).2⟩

set_option maxRecDepth 100000 in
set_option maxHeartbeats 2000000 in
theorem grant_any (base p : Nat) (A : Option Addr) (n c : Nat) (T : List AskD) (rows) (A' : Option Addr) (n' c' : Nat) (ids : List Int) (w : World)
    (hT : TblAt w base p A n c T rows) (hI : IAt' w A' n' c' ids) (hap : ∀ a, A' = some a → 0 < n' → ¬ foot p A a.block) :
    Calls Try.prog 37 #[.pointer (some ⟨p, 0, none⟩), .slice A' n' c'] w (Moved base p A (grantT T ids).2 (.int .i64 (grantT T ids).1) w) := by
  have hn := hT.n_le
  have hn' := RowsAt.n_le hI
  have li : ids.length = n' := by have := hI.len; simpa using this
  have Li := Lib.hid li; clear li
  go_enter Try.func37, Try.ntmps37
  go_wp2
  go_loopw [12] (fun i wr => ∃ (x : Nat) (T' : List AskD) (rows' : List (List Value)), x ≤ n' ∧ i = .int .i64 x ∧ grantT T ids = grantT T' (ids.drop x) ∧ TblAt wr base p A n c T' rows' ∧ But (foot p A) w wr) (fun i _ => n' - (intOf i).toNat)
  case atStart => exact ⟨0, T, rows, Nat.zero_le _, rfl, rfl, hT, But.refl _ _⟩
  case round =>
    obtain ⟨x, T', rows', hx, rfl, hg, hT', hbut⟩ := hrel
    have Hg := Lib.hid hg; clear hg
    by_cases hlt : x < n'
    · obtain ⟨b, o, id, rfl, hbl, hidx, hc0⟩ := IAt'.get (RowsAt.but hI hbut hap) hlt
      have Hd := Lib.hid (drop_of hidx); clear hidx
      have hcall := find_any base p A n c T' rows' id wr hT'
      have hfr := findT_range T' id
      have hlT := hT'.lenT
      have Hg2 : Hid (grantT T ids = grantT T' (id :: ids.drop (x + 1))) := Lib.hid (by rw [Hg.out, Hd.out])
      by_cases hneg : findT T' id < 0
      · have Hf : Hid (grantT T ids = (8, T')) := Lib.hid (by rw [Hg2.out, grantT, if_pos hneg])
        rw [show findT T' id = -1 by omega] at hcall
        have Hcall := Lib.hid hcall; clear hcall hfr hlT hneg
        rw [Hf.out]
        go_wp2_with (go_at_call 68; refine Hcall.out.mono ?_; rintro e w1 ⟨rfl, hb1⟩)
        go_ret
        exact ⟨A, n, c, rows', rfl, hT'.below hb1, hbut.then_below hb1, fun a ha => .inl ha⟩
      · obtain ⟨i, Hi⟩ : ∃ i : Nat, Hid (findT T' id = i) := ⟨(findT T' id).toNat, Lib.hid (by omega)⟩
        have Hin : Hid ((findT T' id).toNat = i) := Lib.hid (by have := Hi.out; omega)
        have hin : i < n := by have := Hi.out; omega
        rw [Hi.out] at hcall
        have Hcall := Lib.hid hcall; clear hcall hfr hlT
        obtain ⟨g, Ai, ci, a, rfl, hbg, hgl, hgp, hTi, hi0, hi1, hi2, hwi, hsti, h1000, hfz, hrow, hapi⟩ := hT'.get hin
        generalize hah : a.held = ah at *
        have Hah := Lib.hid hah; clear hah
        have HTi := Lib.hid hTi; clear hTi
        have Hheld : Hid (heldT T' i = ah) := Lib.hid (by simp [heldT, HTi.out, Hah.out])
        have hcp := hT'.cell
        have hpl := hT'.blk.lt
        clear hrow
        obtain ⟨r, Hr⟩ : ∃ r, Hid (readyT T' i = r) := ⟨_, rfl⟩
        have Hneg := Lib.hid hneg; clear hneg
        cases ah
        · have hready : ∀ w1 : World, Below wr.heap.size wr w1 → Calls Try.prog 72 #[.pointer (some ⟨p, 0, none⟩), .int .i64 i] w1 fun e w' => e = .returned (.bool r) ∧ Below w1.heap.size w1 w' := fun w1 hb1 => by
            have := ready_any base p _ n c T' rows' i hin w1 (hT'.below hb1)
            rw [Hr.out] at this; exact this
          have Hready := Lib.hid hready; clear hready
          cases r
          · have Hf : Hid (grantT T ids = (18, T')) := Lib.hid (by rw [Hg2.out, grantT, if_neg Hneg.out, Hin.out, Hheld.out, Hr.out]; rfl)
            rw [Hf.out]
            go_wp2_with (first | (go_at_call 68; refine Hcall.out.mono ?_; rintro e w1 ⟨rfl, hb1⟩; have hT1 := hT'.below hb1; have hcp1 := hT1.cell; have hi21 := (hb1.cell (p := ⟨g, i * 3 + 2, none⟩) hgl).trans hi2) | (go_at_call 72; refine (Hready.out _ hb1).mono ?_; rintro e w2 ⟨rfl, hb2⟩))
            go_ret
            exact ⟨_, n, c, rows', rfl, hT1.below hb2, (hbut.then_below hb1).then_below hb2, fun a ha => .inl ha⟩
          · have Hf : Hid (grantT T ids = grantT (holdT T' i) (ids.drop (x + 1))) := Lib.hid (by rw [Hg2.out, grantT, if_neg Hneg.out, Hin.out, Hheld.out, Hr.out]; rfl)
            go_wp2_with (first | (go_at_call 68; refine Hcall.out.mono ?_; rintro e w1 ⟨rfl, hb1⟩; have hT1 := hT'.below hb1; have hcp1 := hT1.cell; have hi21 := (hb1.cell (p := ⟨g, i * 3 + 2, none⟩) hgl).trans hi2) | (go_at_call 72; refine (Hready.out _ hb1).mono ?_; rintro e w2 ⟨rfl, hb2⟩; have hT2 := hT1.below hb2; have hcp2 := hT2.cell; have hi22 := (hb2.cell (p := ⟨g, i * 3 + 2, none⟩) (World.block_lt_of_cell? w1 _ hi21)).trans hi21; have hfz2 := hT2.own.frozenAt))
            go_roundw
            case rel =>
              obtain ⟨g', Ak, ck, a', hA', _, _, _, hTk', _, _, _, _, _, _, _, hrow', _⟩ := hT2.get hin
              simp only [Option.some.injEq, Addr.mk.injEq, and_true] at hA'
              subst hA'
              exact ⟨x + 1, holdT T' i, _, by omega, by go_num, Hf.out, hT2.hold hTk' hrow', ((hbut.then_below hb1).then_below hb2).setCell (p := ⟨g, i * 3 + 2, none⟩) (.inl (.inr rfl)) _⟩
            case measure => simp [intOf]; omega
        · have Hf : Hid (grantT T ids = (8, T')) := Lib.hid (by rw [Hg2.out, grantT, if_neg Hneg.out, Hin.out, Hheld.out]; rfl)
          rw [Hf.out]
          go_wp2_with (go_at_call 68; refine Hcall.out.mono ?_; rintro e w1 ⟨rfl, hb1⟩; have hT1 := hT'.below hb1; have hcp1 := hT1.cell; have hi21 := (hb1.cell (p := ⟨g, i * 3 + 2, none⟩) hgl).trans hi2)
          go_ret
          exact ⟨_, n, c, rows', rfl, hT1, hbut.then_below hb1, fun a ha => .inl ha⟩
    · go_wp2
      go_ret
      obtain rfl : x = n' := by omega
      have e : grantT T ids = (0, T') := by rw [Hg.out, List.drop_of_length_le (by rw [Li.out]; omega)]; rfl
      rw [e]
      exact ⟨A, n, c, rows', rfl, hT', hbut, fun a ha => .inl ha⟩
end Go.Proofs.Ytinpihplkikldaa
