/- Lock, part V: the statement's list beside the table: what a store into one leaves of the other. -/
import Derived.Test.YtinpihplkikldaaLockU
namespace Go.Proofs.Ytinpihplkikldaa
open Go.RowKit Go.Afx

/-- a store of a bool behind a cell that holds no string hits no want -/
theorem WAt.poke {w : World} {A : Option Addr} {n c : Nat} {ws : List Wt} (h : WAt w A n c ws) {g j : Nat} {u : Value} (v : Value) (hj : w.cell? ⟨g, j, none⟩ = some u) (hu : ∀ s, u ≠ .string s) {x : Value} (hb : w.cell? ⟨g, j + 1, none⟩ = some x) (hx : ∀ s, x ≠ .string s) : WAt (w.setCell ⟨g, j + 1, none⟩ v) A n c ws := by
  refine ⟨h.len, h.cap, h.max, fun k row hr => ?_⟩
  obtain ⟨b, o, rfl, hlt, hc⟩ := h.at_ k row hr
  refine ⟨b, o, rfl, by simpa using hlt, fun i y hy => ?_⟩
  rw [World.cell?_setCell_other _ _ _ _ ?_]
  · exact hc i y hy
  · intro e
    injection e with e1 e2 _
    subst e1
    rw [List.getElem?_map] at hr
    obtain ⟨p, hp, rfl⟩ := Option.map_eq_some_iff.1 hr
    have hil : i < 2 := by have := (List.getElem?_eq_some_iff.1 hy).1; simpa [wrow] using this
    have h0 := hc 0 (.string p.1) rfl
    rcases Nat.lt_or_ge i 1 with h1 | h1
    · obtain rfl : i = 0 := by omega
      have e3 : j + 1 = o + k * 2 + 0 := by omega
      rw [e3, h0] at hb
      exact hx _ (Option.some.inj hb).symm
    · obtain rfl : i = 1 := by omega
      have e3 : j = o + k * 2 + 0 := by omega
      rw [e3, h0] at hj
      exact hu _ (Option.some.inj hj).symm

section
variable {w w' : World} {base bl p n c n2 c2 k g : Nat} {A : Option Addr} {T L : List AskD} {rows rows2 : List (List Value)}

/-- 'held = true' in the statement's list: the table stays -/
theorem TblAt.poke (h : TblAt w base p A n c T rows) (hL : LisAt w bl (some ⟨g, 0, none⟩) n2 c2 L rows2) (hk : k < n2) (v : Value) : TblAt (w.setCell ⟨g, k * 3 + 2, none⟩ v) base p A n c T rows := by
  obtain ⟨g', Ak, ck, a, hA, hbg, hgl, hLk, hc0, hc1, hc2, hwk, hfz, hrow⟩ := hL.get hk
  simp only [Option.some.injEq, Addr.mk.injEq, and_true] at hA
  subst hA
  obtain ⟨cs, hcs⟩ := own_blk hL.own
  have hpg : p ≠ g := blk_ne h.blk hcs (by decide)
  refine ⟨h.blk.elsewhere hpg _, h.hp, ?_, h.lenT, h.lenR, h.apart, fun j b hj => ?_⟩
  · refine own_but h.own ((But.refl (fun i => i = g) w).setCell (p := ⟨g, k * 3 + 2, none⟩) (.inl rfl) _) (fun g' hg' e => ?_)
    subst e
    cases A with
    | none => simp [Value.ownBlock] at hg'
    | some a2 =>
      obtain ⟨cs2, h2⟩ := own_blk h.own
      simp [Value.ownBlock] at hg'
      rw [hg'] at h2
      exact blk_ne h2 hcs (by decide) rfl
  · obtain ⟨Aj, nj, cj, hr, hw, hs, hl, hap⟩ := h.at_ j b hj
    exact ⟨Aj, nj, cj, hr, hw.poke v hc1 (fun s e => by cases e) hc2 (fun s e => by cases e), hs, hl, fun ad e h0 => by
      obtain ⟨cs3, h3⟩ := hap ad e h0
      exact ⟨cs3, h3.elsewhere (p := ⟨g, k * 3 + 2, none⟩) (blk_ne h3 hcs (by decide)) _⟩⟩

/-- and the list is as it must be -/
theorem LisAt.hold (hL : LisAt w bl (some ⟨g, 0, none⟩) n2 c2 L rows2) (hk : k < n2) : ∃ rows', LisAt (w.setCell ⟨g, k * 3 + 2, none⟩ (.bool true)) bl (some ⟨g, 0, none⟩) n2 c2 (holdT L k) rows' := by
  obtain ⟨g', Ak, ck, a, hA, hbg, hgl, hLk, hc0, hc1, hc2, hwk, hfz, hr⟩ := hL.get hk
  simp only [Option.some.injEq, Addr.mk.injEq, and_true] at hA
  subst hA
  obtain ⟨cs, hcs⟩ := own_blk hL.own
  have hst := (hL.own.stored (k * 3 + 2) (.bool true)).1
  rw [flatten_set rows2 3 hL.rowLen k 2 _ _ hr (by omega)] at hst
  refine ⟨_, hst, by rw [holdT, List.length_modify, hL.lenL], by rw [List.length_set, hL.lenR], fun j b hj => ?_⟩
  unfold holdT at hj
  rw [List.getElem?_modify] at hj
  have keep : ∀ (Aj : Option Addr) (nj cj : Nat) (ws : List Wt), WAt w Aj nj cj ws → (∀ ad, Aj = some ad → 0 < nj → ∃ cs, IsBlk w ad.block 31 cs) → WAt (w.setCell ⟨g, k * 3 + 2, none⟩ (.bool true)) Aj nj cj ws ∧ (∀ ad, Aj = some ad → 0 < nj → ∃ cs, IsBlk (w.setCell ⟨g, k * 3 + 2, none⟩ (.bool true)) ad.block 31 cs) := fun Aj nj cj ws hw hap =>
    ⟨hw.poke _ hc1 (fun s e => by cases e) hc2 (fun s e => by cases e), fun ad e h0 => by
      obtain ⟨cs3, h3⟩ := hap ad e h0
      exact ⟨cs3, h3.elsewhere (p := ⟨g, k * 3 + 2, none⟩) (blk_ne h3 hcs (by decide)) _⟩⟩
  by_cases hjk : k = j
  · subst hjk
    rw [hLk] at hj
    simp at hj
    subst hj
    obtain ⟨Aj, nj, cj, hr2, hw2, hap2⟩ := hL.at_ k a hLk
    rw [hr] at hr2
    simp only [Option.some.injEq, List.cons.injEq, Value.slice.injEq, and_true, true_and] at hr2
    obtain ⟨rfl, rfl, rfl⟩ := hr2
    obtain ⟨h5, h6⟩ := keep _ _ _ _ hw2 hap2
    exact ⟨Ak, _, ck, by rw [List.getElem?_set_self (by rw [hL.lenR]; exact hk)]; rfl, h5, h6⟩
  · have hj : L[j]? = some b := by simpa [hjk] using hj
    obtain ⟨Aj, nj, cj, hr2, hw2, hap2⟩ := hL.at_ j b hj
    obtain ⟨h5, h6⟩ := keep _ _ _ _ hw2 hap2
    exact ⟨Aj, nj, cj, by rw [List.getElem?_set_ne hjk]; exact hr2, h5, h6⟩

/-- what is done to the table leaves the list -/
theorem LisAt.beside {A2 : Option Addr} (hL : LisAt w bl A2 n2 c2 L rows2) (h : TblAt w base p A n c T rows) (hb : But (foot p A) w w') : LisAt w' bl A2 n2 c2 L rows2 := by
  have hfoot : ∀ {b : Nat} {t : TypeId} {cs : Array Value}, IsBlk w b t cs → t ≠ 104 → t ≠ 113 → ¬ foot p A b := by
    intro b t cs hbk h1 h2 hf
    rcases hf with e | e
    · exact blk_ne hbk h.blk h1 e
    · cases A with
      | none => simp at e
      | some a =>
        obtain ⟨cs2, h3⟩ := own_blk h.own
        simp at e
        exact blk_ne hbk h3 h2 e.symm
  refine hL.but hb (fun a ha => ?_) (fun k a Ak nk ck ad hk hr e h0 => ?_)
  · subst ha
    obtain ⟨cs, hcs⟩ := own_blk hL.own
    exact hfoot hcs (by decide) (by decide)
  · obtain ⟨Aj, nj, cj, hr2, hw2, hap2⟩ := hL.at_ k a hk
    rw [hr] at hr2
    simp only [Option.some.injEq, List.cons.injEq, Value.slice.injEq, and_true, true_and] at hr2
    obtain ⟨rfl, rfl, rfl⟩ := hr2
    obtain ⟨cs, hcs⟩ := hap2 ad e h0
    exact hfoot hcs (by decide) (by decide)
end
end Go.Proofs.Ytinpihplkikldaa
