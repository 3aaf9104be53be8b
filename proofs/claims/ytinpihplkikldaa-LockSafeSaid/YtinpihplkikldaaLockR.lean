/- Lock, part R: an ask is taken away. -/
import Derived.Test.YtinpihplkikldaaLockQ
import Derived.Test.YtinpihplkikldaaDel
import Derived.Deep.RegionLaw
namespace Go.Proofs.Ytinpihplkikldaa
open Go.RowKit Go.Afx

def noAsk : List Value := [.slice none 0 0, .int .i64 0, .bool false]

theorem clearAsk (W : World) (g o c : Nat) (ty : TypeId) (hc : ∀ j, j < 3 → (W.cell? ⟨g, o + j, none⟩).isSome = true) (hf : ∀ j, j < 3 → W.frozen? ⟨g, o + j, none⟩ = false) :
    (Builtin.clear_ #[102] ty #[.slice (some ⟨g, o, none⟩) 1 c]).run Try.prog W = .ok (.tuple #[]) (W.setCells g o noAsk) := by
  have hst := run_storeCells_cells (P := Try.prog) g o noAsk 0 W (by simpa [noAsk] using hc) (by simpa [noAsk] using hf) (by simp [noAsk, Value.oneCell'])
  have hzc : (Builtin.zeroCells (Value.cells (.agg #[.slice none 0 0, .int .i64 0, .bool false])) 1).toList = noAsk := by kernel_rfl
  simp [Builtin.clear_, run_underlying Try.underlying102, hzc, hst]

set_option maxRecDepth 100000 in
set_option maxHeartbeats 2000000 in
theorem delete_any (base g n c : Nat) (rows : List (List Value)) (i : Nat) (hi : i < n) (hr : ∀ r ∈ rows, r.length = 3) (h1 : ∀ r ∈ rows, ∀ u ∈ r, u.oneCell' = true) (hx : rows.length = n) (w : World)
    (hown : w.ownsRow base 113 3 (.slice (some ⟨g, 0, none⟩) n c) n rows.flatten) :
    Calls Try.prog 73 #[.slice (some ⟨g, 0, none⟩) n c, .int .i64 i, .int .i64 ((i : Int) + 1)] w fun e w' => e = .returned (.slice (some ⟨g, 0, none⟩) (n - 1) c) ∧
      w'.ownsRow base 113 3 (.slice (some ⟨g, 0, none⟩) (n - 1) c) (n - 1) (rows.eraseIdx i).flatten ∧ But (fun k => k = g) w w' := by
  obtain ⟨i0, hi0, hz0, hz1, hz2⟩ := tyAsk.at_
  obtain ⟨g', cap, cur, hv, hbg, hg, hnc, hcm, hcs, htk⟩ : ∃ g' cap cur, Value.slice (some ⟨g, 0, none⟩) n c = .slice (some ⟨g', 0, none⟩) n cap ∧ base ≤ g' ∧ w.heap[g']? = some (.cells cur 113 (0, 0)) ∧ n ≤ cap ∧ cap ≤ maxLen ∧ cur.size = cap * 3 ∧ cur.toList.take (n * 3) = rows.flatten := by
    rcases hown.2 with ⟨hv, _⟩ | h
    · cases hv
    · exact h
  simp only [Value.slice.injEq, Option.some.injEq, Addr.mk.injEq, and_true, true_and] at hv
  obtain ⟨rfl, rfl⟩ := hv
  have hcm' : c ≤ 9223372036854775807 := by unfold maxLen at hcm; omega
  have hblk : IsBlk w.drew g 113 cur := hg
  obtain ⟨news, hnews⟩ : ∃ news, news = (rows.drop (i + 1)).flatten := ⟨_, rfl⟩
  have hlen : news.length = (n - (i + 1)) * 3 := by rw [hnews, flatten_length _ 3 (fun r h => hr r (List.mem_of_mem_drop h)), List.length_drop, hx]
  have hdata : ∀ j u, news[j]? = some u → cur[(i + 1) * 3 + j]? = some u := by
    intro j u hj
    have hjl := (List.getElem?_eq_some_iff.1 hj).1
    have e4 : rows.flatten = (rows.take (i + 1)).flatten ++ news := by rw [hnews, ← List.flatten_append, List.take_append_drop]
    have e5 : (rows.take (i + 1)).flatten.length = (i + 1) * 3 := by rw [flatten_length _ 3 (fun r h => hr r (List.mem_of_mem_take h)), List.length_take]; omega
    have e6 : rows.flatten[(i + 1) * 3 + j]? = some u := by rw [e4, List.getElem?_append_right (by omega), e5, Nat.add_sub_cancel_left]; exact hj
    rw [← htk, List.getElem?_take, if_pos (by omega), Array.getElem?_toList] at e6
    exact e6
  obtain ⟨A, hA, hsrc⟩ : ∃ A : Addr, (if c = i + 1 then some (⟨g, 0, none⟩ : Addr) else some ⟨g, (i + 1) * 3, none⟩) = some A ∧ Hid (∀ j u, news[j]? = some u → w.drew.cell? (A.add j) = some u) := by
    by_cases h : c = i + 1
    · refine ⟨⟨g, 0, none⟩, by simp [h], fun j u hj => ?_⟩
      have := (List.getElem?_eq_some_iff.1 hj).1
      omega
    · refine ⟨⟨g, (i + 1) * 3, none⟩, by simp [h], fun j u hj => ?_⟩
      rw [Addr.add_lit, hblk.cell]
      exact hdata j u hj
  have s1 : Hid (news.length = (n - (i + 1)) * 3) := hlen
  have s2 : Hid (∀ u ∈ news, u.oneCell' = true) := by
    intro u hu
    rw [hnews] at hu
    obtain ⟨r, hr1, hu⟩ := List.mem_flatten.1 hu
    exact h1 r (List.mem_of_mem_drop hr1) u hu
  have s3 : Hid (∀ j, j < news.length → (w.drew.cell? ⟨g, 0 + i * 3 + j, none⟩).isSome = true ∧ w.drew.frozen? ⟨g, 0 + i * 3 + j, none⟩ = false) := by
    intro j hj
    refine ⟨?_, hblk.frozen _⟩
    rw [hblk.cell, Array.getElem?_eq_getElem (by rw [hcs]; omega)]; rfl
  obtain ⟨W1, hW1⟩ : ∃ W1, W1 = w.drew.setCells g (0 + i * 3) news := ⟨_, rfl⟩
  have hb1 : IsBlk W1 g 113 (layA cur (0 + i * 3) news) := by rw [hW1]; exact IsBlk.setCells _ _ _ _ hblk
  have hcl : ∀ ty c', (Builtin.clear_ #[102] ty #[.slice (some ⟨g, (n - 1) * 3, none⟩) 1 c']).run Try.prog W1 = .ok (.tuple #[]) (W1.setCells g ((n - 1) * 3) noAsk) := fun ty c' =>
    clearAsk W1 g _ c' ty (fun j hj => by rw [hb1.cell, Array.getElem?_eq_getElem (by rw [layA_size, hcs]; omega)]; rfl) (fun j hj => hb1.frozen _)
  have hW : Hid (W1 = w.drew.setCells g (0 + i * 3) news) := hW1
  have Hout : Hid (((w.drew.setCells g (i * 3) (rows.drop (i + 1)).flatten).setCells g ((n - 1) * 3) noAsk).ownsRow base 113 3 (.slice (some ⟨g, 0, none⟩) (n - 1) c) (n - 1) (rows.eraseIdx i).flatten) := own_moved (w := w.drew) hown hr hx i hi noAsk rfl
  have HN : Hid (news = (rows.drop (i + 1)).flatten) := hnews
  have hlast : i + (n - (i + 1)) = n - 1 := by omega
  have hic : i ≤ c := by omega
  have hjc : i + 1 ≤ c := by omega
  have hne : ((i : Int) == (i : Int) + 1) = false := by simp; omega
  have hp0 : (0 : Int) ≤ (i : Int) + 1 := by omega
  have hp1 : (i : Int) + 1 ≤ (n : Int) := by omega
  have hp2 : ((i : Int) + 1).toNat = i + 1 := by omega
  have hp3 : n - (n - 1) = 1 := by omega
  have hp4 : ¬ c = n - 1 := by omega
  have hp5 : n - 1 ≤ n := by omega
  have hp6 : ((n - 1 : Nat) : Int) ≤ (n : Int) := by omega
  clear hW1 hb1 hblk hdata hnews hlen hown hg hcs htk
  go_enter Try.func73, Try.ntmps73
  go_wp2_with fail
  go_region_law (refine step_append_room rfl (.tmp 22) (.tmp 25) 102 rfl 113 i0 3 Try.underlying102 hi0 hz1 g 0 i c (by simp [Act.eval, Act.put]) A (n - (i + 1)) (c - (i + 1)) news (by simp [Act.eval, Act.put]) s1.out hsrc.out s2.out (by omega) s3.out ?_; rw [← hW.out])
  all_goals go_wp2
  all_goals go_ret
  all_goals exact ⟨rfl, by rw [hW.out, HN.out, Nat.zero_add]; exact Hout.out, by rw [hW.out]; exact But.setCells (S := fun k => k = g) (a := w) (.inl rfl) _ _ _ (But.setCells (S := fun k => k = g) (a := w) (.inl rfl) _ _ _ (But.drew (But.refl (fun k => k = g) w)))⟩

theorem TblAt.one {w : World} {base p n c : Nat} {A : Option Addr} {T : List AskD} {rows : List (List Value)} (h : TblAt w base p A n c T rows) : ∀ r ∈ rows, ∀ u ∈ r, u.oneCell' = true := by
  intro r hr u hu
  obtain ⟨k, hk, rfl⟩ := List.mem_iff_getElem.1 hr
  obtain ⟨Ak, nk, ck, e, _⟩ := h.at_ k _ (List.getElem?_eq_getElem (by have := h.lenT; have := h.lenR; omega))
  rw [List.getElem?_eq_getElem hk] at e
  injection e with e
  rw [e] at hu
  simp only [List.mem_cons, List.not_mem_nil, or_false] at hu
  rcases hu with rfl | rfl | rfl <;> rfl

/-- an ask taken out -/
theorem TblAt.cut {w w1 : World} {base p n c i g : Nat} {T : List AskD} {rows : List (List Value)} (h : TblAt w base p (some ⟨g, 0, none⟩) n c T rows) (hi : i < n)
    (hown : w1.ownsRow base 113 3 (.slice (some ⟨g, 0, none⟩) (n - 1) c) (n - 1) (rows.eraseIdx i).flatten) (hbut : But (fun k => k = g) w w1) :
    TblAt (w1.setCell ⟨p, 0, none⟩ (.slice (some ⟨g, 0, none⟩) (n - 1) c)) base p (some ⟨g, 0, none⟩) (n - 1) c (T.eraseIdx i) (rows.eraseIdx i) := by
  have hgp : g ≠ p := h.apart _ rfl
  have hb2 : But (fun k => k = g ∨ k = p) w (w1.setCell ⟨p, 0, none⟩ (.slice (some ⟨g, 0, none⟩) (n - 1) c)) := (hbut.mono fun _ hk => .inl (.inl hk)).setCell (.inl (.inr rfl)) _
  have hblk1 : IsBlk w1 p 104 #[.slice (some ⟨g, 0, none⟩) n c] := h.blk.as_was (hbut.block p h.blk.lt (fun e => hgp e.symm))
  have hoff : ∀ {Ak : Option Addr} {nk : Nat}, (∀ ad, Ak = some ad → 0 < nk → ∃ cs, IsBlk w ad.block 31 cs) → ∀ ad, Ak = some ad → 0 < nk → ¬ (ad.block = g ∨ ad.block = p) := fun hap ad e h0 hS => by
    obtain ⟨cs, hc⟩ := hap ad e h0
    obtain ⟨h3, h4⟩ := h.off hc
    rcases hS with hS | hS
    · exact h4 (by simp [hS])
    · exact h3 hS
  refine ⟨hblk1.stored 0 _, h.hp, ?_, by rw [List.length_eraseIdx, h.lenT]; simp [hi], by rw [List.length_eraseIdx, h.lenR]; simp [hi], h.apart, fun k a hk => ?_⟩
  · refine own_but hown ((But.refl (fun k => k = p) w1).setCell (p := ⟨p, 0, none⟩) (.inl rfl) _) (fun g' hg => ?_)
    simp [Value.ownBlock] at hg
    subst hg
    exact hgp
  · rw [List.getElem?_eraseIdx] at hk ⊢
    by_cases hki : k < i
    · rw [if_pos hki] at hk ⊢
      obtain ⟨Ak, nk, ck, hr, hw, hst, h1000, hap⟩ := h.at_ k a hk
      exact ⟨Ak, nk, ck, hr, RowsAt.but hw hb2 (hoff hap), hst, h1000, fun ad e h0 => by obtain ⟨cs, hc⟩ := hap ad e h0; exact ⟨cs, hc.as_was (hb2.block _ hc.lt (hoff hap ad e h0))⟩⟩
    · rw [if_neg hki] at hk ⊢
      obtain ⟨Ak, nk, ck, hr, hw, hst, h1000, hap⟩ := h.at_ (k + 1) a hk
      exact ⟨Ak, nk, ck, hr, RowsAt.but hw hb2 (hoff hap), hst, h1000, fun ad e h0 => by obtain ⟨cs, hc⟩ := hap ad e h0; exact ⟨cs, hc.as_was (hb2.block _ hc.lt (hoff hap ad e h0))⟩⟩

def freeT (T : List AskD) : List Int → Int × List AskD
  | [] => (0, T)
  | id :: r => if findT T id < 0 then (8, T) else freeT (T.eraseIdx (findT T id).toNat) r

set_option maxRecDepth 100000 in
set_option maxHeartbeats 2000000 in
theorem free_any (base p : Nat) (A : Option Addr) (n c : Nat) (T : List AskD) (rows) (A' : Option Addr) (n' c' : Nat) (ids : List Int) (w : World)
    (hT : TblAt w base p A n c T rows) (hI : IAt' w A' n' c' ids) (hap : ∀ a, A' = some a → 0 < n' → ¬ foot p A a.block) :
    Calls Try.prog 36 #[.pointer (some ⟨p, 0, none⟩), .slice A' n' c'] w (Moved base p A (freeT T ids).2 (.int .i64 (freeT T ids).1) w) := by
  have hn := hT.n_le
  have hn' := RowsAt.n_le hI
  have li : ids.length = n' := by have := hI.len; simpa using this
  have Li := Lib.hid li; clear li
  go_enter Try.func36, Try.ntmps36
  go_wp2
  go_loopw [12] (fun i wr => ∃ (x m : Nat) (T' : List AskD) (rows' : List (List Value)), x ≤ n' ∧ i = .int .i64 x ∧ freeT T ids = freeT T' (ids.drop x) ∧ TblAt wr base p A m c T' rows' ∧ But (foot p A) w wr) (fun i _ => n' - (intOf i).toNat)
  case atStart => exact ⟨0, n, T, rows, Nat.zero_le _, rfl, rfl, hT, But.refl _ _⟩
  case round =>
    obtain ⟨x, m, T', rows', hx, rfl, hg, hT', hbut⟩ := hrel
    have Hg := Lib.hid hg; clear hg
    have hm := hT'.n_le
    by_cases hlt : x < n'
    · obtain ⟨b, o, id, rfl, hbl, hidx, hc0⟩ := IAt'.get (RowsAt.but hI hbut hap) hlt
      have Hd := Lib.hid (drop_of hidx); clear hidx
      have hcall := find_any base p A m c T' rows' id wr hT'
      have hfr := findT_range T' id
      have hlT := hT'.lenT
      have Hg2 : Hid (freeT T ids = freeT T' (id :: ids.drop (x + 1))) := Lib.hid (by rw [Hg.out, Hd.out])
      by_cases hneg : findT T' id < 0
      · have Hf : Hid (freeT T ids = (8, T')) := Lib.hid (by rw [Hg2.out, freeT, if_pos hneg])
        rw [show findT T' id = -1 by omega] at hcall
        have Hcall := Lib.hid hcall; clear hcall hfr hlT hneg
        rw [Hf.out]
        go_wp2_with (go_at_call 68; refine Hcall.out.mono ?_; rintro e w1 ⟨rfl, hb1⟩)
        go_ret
        exact ⟨A, m, c, rows', rfl, hT'.below hb1, hbut.then_below hb1, fun a ha => .inl ha⟩
      · obtain ⟨i, Hi⟩ : ∃ i : Nat, Hid (findT T' id = i) := ⟨(findT T' id).toNat, Lib.hid (by omega)⟩
        have Hin : Hid ((findT T' id).toNat = i) := Lib.hid (by have := Hi.out; omega)
        have hin : i < m := by have := Hi.out; omega
        have Hf : Hid (freeT T ids = freeT (T'.eraseIdx i) (ids.drop (x + 1))) := Lib.hid (by rw [Hg2.out, freeT, if_neg hneg, Hin.out])
        rw [Hi.out] at hcall
        have Hcall := Lib.hid hcall; clear hcall hfr hlT hneg
        obtain ⟨g, Ai, ci, a, rfl, hbg, hgl, hgp, hTi, hi0, hi1, hi2, hwi, hsti, h1000, hfz, hrow, hapi⟩ := hT'.get hin
        clear hrow hTi hi0 hi1 hi2 hfz
        have hcp := hT'.cell
        have hpl := hT'.blk.lt
        go_wp2_with (first
          | (go_at_call 68; refine Hcall.out.mono ?_; rintro e w1 ⟨rfl, hb1⟩; have hT1 := hT'.below hb1; have hcp1 := hT1.cell; have hfz1 := hT1.frozen)
          | (go_at_call 73; refine (delete_any base g m c rows' i hin hT1.rowLen hT1.one hT1.lenR w1 hT1.own).mono ?_; rintro e w2 ⟨rfl, hown2, hbut2⟩; have hfz2 := (hbut2.frozen (p := ⟨p, 0, none⟩) hT1.blk.lt (fun e => hgp e.symm)).trans hfz1; have hcp2 := (hbut2.cell (p := ⟨p, 0, none⟩) hT1.blk.lt (fun e => hgp e.symm)).trans hcp1))
        go_roundw
        case rel =>
          exact ⟨x + 1, m - 1, T'.eraseIdx i, _, by omega, by go_num, Hf.out, hT1.cut hin hown2 hbut2, ((hbut.then_below hb1).trans' (hbut2.mono fun k hk => .inl (.inr (by simp [hk])))).setCell (p := ⟨p, 0, none⟩) (.inl (.inl rfl)) _⟩
        case measure => simp [intOf]; omega
    · go_wp2
      go_ret
      obtain rfl : x = n' := by omega
      have e : freeT T ids = (0, T') := by rw [Hg.out, List.drop_of_length_le (by rw [Li.out]; omega)]; rfl
      rw [e]
      exact ⟨A, m, c, rows', rfl, hT', hbut, fun a ha => .inl ha⟩
end Go.Proofs.Ytinpihplkikldaa
