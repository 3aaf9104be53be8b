/- Lock, part Z: the walk of LockSafe. -/
import Derived.Test.YtinpihplkikldaaLockX
import Derived.Test.YtinpihplkikldaaLockY
namespace Go.Proofs.Ytinpihplkikldaa
open Go.RowKit Go.Afx

theorem Inv.act {T : List AskD} (h : Inv T) (a : ActD) : Inv (actT T a) := by
  unfold actT
  split
  · exact h.ask _ _
  · split
    · exact Inv.grant _ h
    · exact Inv.free _ h
theorem actT_length (T : List AskD) (a : ActD) : (actT T a).length ≤ T.length + 1 := by
  unfold actT
  split
  · exact askT_length _ _ _
  · split
    · rw [grantT_length]; omega
    · exact Nat.le_trans (freeT_length _ _) (by omega)
theorem great_parts {l : List ActD} (h : greatL l = false) : l.length ≤ 60 ∧ ∀ a ∈ l, a.wants.length ≤ 10 ∧ a.more.length ≤ 10 := by
  unfold greatL at h
  rw [Bool.or_eq_false_iff, List.any_eq_false] at h
  refine ⟨by simpa using h.1, fun a ha => ?_⟩
  have h2 := h.2 a ha
  simp only [great1, Bool.or_eq_true, not_or, decide_eq_true_eq] at h2
  omega

/-- what Wants gives, wherever the table lies as it lay -/
def GivesW (w : World) (ws : List Wt) (e : Ending) (w' : World) : Prop :=
  ∃ A c, e = .returned (.slice A ws.length c) ∧ (∀ W, Below w'.heap.size w' W → WAt W A ws.length c ws) ∧ Below w.heap.size w w'
theorem OwnsW.gives {w w' : World} {ws : List Wt} {e : Ending} (h : OwnsW w ws e w') : GivesW w ws e w' := by
  obtain ⟨A, c, rfl, hown, hb⟩ := h
  exact ⟨A, c, rfl, fun W hW => (WAt.of_own hown rfl).below hW, hb⟩
def GivesI (w : World) (xs : List Int) (e : Ending) (w' : World) : Prop :=
  ∃ A c, e = .returned (.slice A xs.length c) ∧ IAt' w' A xs.length c xs ∧ (∀ a, A = some a → 0 < xs.length → w.heap.size ≤ a.block) ∧ Below w.heap.size w w'
theorem OwnsI.gives {w w' : World} {xs : List Int} {e : Ending} (h : OwnsI w xs e w') : GivesI w xs e w' := by
  obtain ⟨A, c, rfl, hown, hb⟩ := h
  refine ⟨A, c, rfl, RowsAt.of_own hown irow_len (by simp), fun a e _ => by subst e; exact (hown.lt a.block rfl).1, hb⟩

set_option maxRecDepth 100000 in
set_option maxHeartbeats 8000000 in
theorem safe_walk (A0 : Option Addr) (nl c0 : Nat) (l : List ActD) (w : World) (hl : ActsAt w A0 nl c0 l) :
    Calls Try.prog 7 #[.slice A0 nl c0] w fun e w' => e = .returned (.bool true) ∧ Below w.heap.size w w' := by
  have hnl := hl.n_le
  have hgc := great_ref A0 nl c0 l w hl
  have ll : l.length = nl := by obtain ⟨_, _, h, _⟩ := hl; exact h
  cases hg : greatL l with
  | true =>
    rw [hg] at hgc
    have Hgc := Lib.hid hgc; clear hgc hg ll
    go_enter Try.func7, Try.ntmps7
    go_wp2_with (first | (go_at_call 9; refine Hgc.out.mono ?_; rintro e w1 ⟨rfl, rfl⟩) | (go_at_call 10; refine (awake_any _).mono ?_; rintro e w1 ⟨rfl, hb1⟩))
    go_ret
    exact ⟨rfl, hb1⟩
  | false =>
    rw [hg] at hgc
    obtain ⟨h60, hsm⟩ := great_parts hg
    have Hgc := Lib.hid hgc
    have Hsm := Lib.hid hsm
    have Ll := Lib.hid ll
    rw [ll] at h60
    clear hgc hg ll hsm
    go_enter Try.func7, Try.ntmps7
    go_wp2_with (first | (go_at_call 9; refine Hgc.out.mono ?_; rintro e w1 ⟨rfl, rfl⟩) | (go_at_call 10; refine (awake_any _).mono ?_; rintro e w1 ⟨rfl, hb1⟩) | (go_at_call 30; refine (new_any _).mono ?_; rintro e w2 ⟨rfl, rfl⟩))
    have hT0 := TblAt.new w1 w.heap.size hb1.size
    obtain ⟨w2, Hw2⟩ : ∃ w2, Hid (w2 = w1.alloc (.cells #[.slice none 0 0] 104)) := ⟨_, rfl⟩
    rw [← Hw2.out] at hT0 ⊢
    have hb2 : Below w.heap.size w w2 := by rw [Hw2.out]; exact hb1.alloc hb1.size _
    obtain ⟨p, Hp⟩ : ∃ p, Hid (w1.heap.size = p) := ⟨_, rfl⟩
    rw [Hp.out] at hT0 ⊢
    clear hb1 Hp Hw2
    go_loopw [4, 5] (fun u i wr => ∃ (x : Nat) (T L : List AskD) (A A2 : Option Addr) (n c n2 c2 : Nat) (rows rows2 : List (List Value)), x ≤ nl ∧ i = .int .i64 x ∧ u = .slice A2 n2 c2 ∧ T.length ≤ x ∧ n2 ≤ x ∧ Inv T ∧ TblAt wr w.heap.size p A n c T rows ∧ LisAt wr w.heap.size A2 n2 c2 L rows2 ∧ Below w.heap.size w wr) (fun _ i _ => nl - (intOf i).toNat)
    case atStart => exact ⟨0, [], [], none, none, 0, 0, 0, 0, [], [], Nat.zero_le _, rfl, rfl, Nat.le_refl _, Nat.le_refl _, Inv.nil_, hT0, LisAt.nil_ _ _, hb2⟩
    case round =>
      obtain ⟨x, T, L, A, A2, n, c, n2, c2, rows, rows2, hx, rfl, rfl, hTl, hn2, hinv, hT, hL, hbr⟩ := hrel
      have hnT := hT.lenT
      have hn : n ≤ 100000 := by omega
      clear hT0 hb2
      by_cases hlt : x < nl
      · obtain ⟨b, o, a, A3, n3, c3, A4, n4, c4, rfl, hbl, hla, hc0, hc1, hc2, hc3, hm, hw⟩ := hl.get hlt
        have hsm := Hsm.out a (List.mem_of_getElem? hla)
        have hn3 : n3 ≤ 10 := by have := hm.len; simp at this; omega
        have hd0 := (hbr.cell (p := ⟨b, o + x * 4, none⟩) hbl).trans hc0
        have hd1 := (hbr.cell (p := ⟨b, o + x * 4 + 1, none⟩) hbl).trans hc1
        have hd2 := (hbr.cell (p := ⟨b, o + x * 4 + 2, none⟩) hbl).trans hc2
        have hd3 := (hbr.cell (p := ⟨b, o + x * 4 + 3, none⟩) hbl).trans hc3
        have hcall := does_any (p := p) a wr hT hL hn (by omega) hsm.1 hn3 (hw.below hbr) (fun ad e h0 => hw.lt h0 ad e) (RowsAt.below hm hbr)
        have hinv' := hinv.act a
        have hlen' := actT_length T a
        generalize actT T a = T' at *
        have Hcall := Lib.hid hcall
        clear hcall hla hc0 hc1 hc2 hc3
        generalize a.kind = kk at *
        generalize a.id = ii at *
        go_wp2_with (go_at_call 31; refine Hcall.out.mono ?_; rintro e w3 ⟨A5, A6, n5, c5, n6, c6, rows5, L', rows6, ok, rfl, hT3, hL3, hn6, hb3⟩)
        have hbw3 : Below w.heap.size w w3 := hbr.trans hb3
        have hT3l := hT3.lenT
        clear Hcall hd0 hd1 hd2 hd3 hL hT hbr hb3 hm hw hsm hbl
        refine (holdL_any _ _ _ _ _ _ _ (by omega) _ hT3).mono ?_
        intro e w4 hho
        obtain ⟨Ah, ch, rfl, hH, hHb, hb4⟩ := hho.gives
        clear hho
        have hsafe := fun (u v : Nat) (y z : Int) => safe_pair hinv' (p := u) (q := v) (x := y) (y := z)
        have hfree := free1_of (T := T')
        generalize sortedI (idsT T' (heldT T')) = hs at *
        obtain ⟨m, Hm⟩ : ∃ m, Hid (hs.length = m) := ⟨_, rfl⟩
        have hH' := hH
        rw [Hm.out] at hH' hfree ⊢
        have hmn := RowsAt.n_le hH'
        have hT4 := hT3.below hb4
        have hL4 := hL3.below hb4
        have hbw4 := hbw3.trans (hb4.mono hbw3.size)
        have hsz4 := hb4.size
        have HW : ∀ (id : Int) (W : World), Below w4.heap.size w4 W → Calls Try.prog 33 #[.pointer (some ⟨p, 0, none⟩), .int .i64 id] W (GivesW W (wantsT T' id)) := fun id W hW => (wants_any _ _ _ _ _ _ _ id W (hT4.below hW)).mono fun e w' h => h.gives
        have HWh := Lib.hid HW
        have Hsafe := Lib.hid hsafe
        clear HW hsafe hb4 hH hT3 hL3 hbw3
        clear wr
        go_wp2_with fail
        go_loopw [7] (fun i wr => ∃ y : Nat, y ≤ m ∧ i = .int .i64 y ∧ Below w4.heap.size w4 wr) (fun i _ => m - (intOf i).toNat)
        case atStart => exact ⟨0, Nat.zero_le _, rfl, Below.refl _ _⟩
        case round =>
          obtain ⟨y, hy, rfl, hby⟩ := hrel
          by_cases hlty : y < m
          · go_wp2_with fail
            go_loopw [8] (fun i wr => ∃ z : Nat, z ≤ y ∧ i = .int .i64 z ∧ Below w4.heap.size w4 wr) (fun i _ => y - (intOf i).toNat)
            case atStart => exact ⟨0, Nat.zero_le _, rfl, hby⟩
            case round =>
              obtain ⟨z, hz, rfl, hbz⟩ := hrel
              by_cases hltz : z < y
              · obtain ⟨bh, oh, p1, hAh, hbl1, hx1, hp1⟩ := IAt'.get hH' hlty
                obtain ⟨bh2, oh2, q1, hAh2, hbl2, hx2, hq1⟩ := IAt'.get hH' (show z < m by omega)
                subst hAh
                simp only [Option.some.injEq, Addr.mk.injEq, and_true] at hAh2
                obtain ⟨rfl, rfl⟩ := hAh2
                have hno := Hsafe.out y z p1 q1 hx1 hx2 (by omega)
                clear hx1 hx2
                have hp1' := (hbz.cell (p := ⟨bh, oh + y, none⟩) hbl1).trans hp1
                have hq1' := (hbz.cell (p := ⟨bh, oh + z, none⟩) hbl1).trans hq1
                have hblz : bh < wr.heap.size := Nat.lt_of_lt_of_le hbl1 hbz.size
                have hz0 : (0 : Int) ≤ (z : Int) := by omega
                have hzm : (z : Int) < (m : Int) := by omega
                have hy0 : (0 : Int) ≤ (y : Int) := by omega
                have hym : (y : Int) < (m : Int) := by omega
                have hclash := fun (A A' : Option Addr) (c c' : Nat) (W : World) => clash_ref A A' (wantsT T' p1).length c (wantsT T' q1).length c' (wantsT T' p1) (wantsT T' q1) W
                rw [hno] at hclash
                have Hclash := Lib.hid hclash
                have Hno := Lib.hid hno
                clear hno hclash hp1 hq1
                go_wp2_with fail
                go_region_law (first
                  | (go_simp; go_at_call_of 33 p1; go_loud (refine (HWh.out p1 _ (by first | exact hbz.drew | exact hbw)).mono ?_; rintro e wa ⟨Aa, ca, rfl, hWa, hba⟩; have hbw : Below w4.heap.size w4 wa := (by first | exact (hbz.drew).trans (hba.mono hbz.size) | exact hbw.trans (hba.mono hbw.size)); (try have hqa := (hba.cell (p := ⟨bh, oh + z, none⟩) hblz).trans hq1')))
                  | (go_simp; go_at_call_of 33 q1; go_loud (refine (HWh.out q1 _ (by first | exact hbz.drew | exact hbw)).mono ?_; rintro e wb ⟨Ab, cb, rfl, hWb, hbb⟩; have hbw : Below w4.heap.size w4 wb := (by first | exact (hbz.drew).trans (hbb.mono hbz.size) | exact hbw.trans (hbb.mono hbw.size)); (try have hpb := (hbb.cell (p := ⟨bh, oh + y, none⟩) hblz).trans hp1')))
                  | (go_simp; go_at_call 12; go_loud (refine (Hclash.out Aa Ab ca cb _ (hWa _ (by first | exact Below.refl _ _ | exact hbb)) (hWb _ (by first | exact Below.refl _ _ | exact hba))).mono ?_; rintro e we ⟨rfl, ke, rfl⟩)))
                all_goals
                  go_wp2
                  go_roundw
                  case rel => exact ⟨z + 1, by omega, by go_num, below_drewN hbw ke⟩
                  case measure => simp [intOf]; omega
              · go_wp2
                go_roundw
                case rel => exact ⟨y + 1, by omega, by go_num, hbz⟩
                case measure => simp [intOf]; omega
          · have hTy := hT4.below hby
            have hLy := hL4.below hby
            have hbwy := hbw4.trans (hby.mono hbw4.size)
            have hbyz := hby.size
            clear HWh Hsafe
            go_wp2_with fail
            have hwl := waitL_any _ _ _ _ _ _ _ (by omega) _ hTy
            refine hwl.mono ?_
            clear hwl
            intro e w5 hho
            obtain ⟨Aw, cw, rfl, hI, hIb, hb5⟩ := hho.gives
            clear hho
            have hT5 := hTy.below hb5
            have hL5 := hLy.below hb5
            have hbw5 := hbwy.trans (hb5.mono hbwy.size)
            by_cases hm0 : m = 0
            · have hf1 := hfree hm0
              clear hfree
              subst hm0
              cases T' with
              | nil =>
                have h00 : (idsT [] (fun k => !heldT [] k)).length = 0 := rfl
                rw [h00]
                clear h00 hI hIb
                go_wp2_with fail
                go_quiet (fail)
                go_wp2
                go_roundw
                case rel => exact ⟨x + 1, [], L', A5, A6, n5, c5, n6, c6, rows5, rows6, by omega, by go_num, rfl, by omega, by omega, hinv', hT5.drewN _, hL5.drewN _, below_drewN hbw5 _⟩
                case measure => simp [intOf]; omega
              | cons a0 T1 =>
                obtain ⟨x0, r1, r2, hr1, hr2⟩ := first_ready hf1 (by simp)
                rw [hr2] at hI hIb ⊢
                obtain ⟨wl, Hwl⟩ : ∃ wl : Nat, Hid ((x0 :: r2).length = wl) := ⟨_, rfl⟩
                have hwl0 : 0 < wl := by have := Hwl.out; simp at this; omega
                rw [Hwl.out] at hI ⊢
                obtain ⟨bw, ow, x1, hAw, hbwl, hx1, hcw⟩ := IAt'.get hI hwl0
                simp only [List.getElem?_cons_zero, Option.some.injEq] at hx1
                subst hx1
                subst hAw
                have HR : ∀ W : World, Below w5.heap.size w5 W → Calls Try.prog 35 #[.pointer (some ⟨p, 0, none⟩)] W fun e w' => ∃ br or rl cr, e = .returned (.slice (some ⟨br, or, none⟩) rl cr) ∧ 0 < rl ∧ w'.cell? ⟨br, or, none⟩ = some (.int .i64 x0) ∧ Below W.heap.size W w' := fun W hW => by
                  have h := readyL_any _ _ _ _ _ _ _ (by omega) W (hT5.below hW)
                  rw [hr1] at h
                  refine h.mono fun e w' ho => ?_
                  obtain ⟨Ar, cr, rfl, hIr, _, hbr⟩ := ho.gives
                  obtain ⟨br, or, x1, rfl, _, hx1, hc⟩ := IAt'.get hIr (k := 0) (by simp)
                  simp only [List.getElem?_cons_zero, Option.some.injEq] at hx1
                  subst hx1
                  exact ⟨br, or, _, cr, rfl, by simp, hc, hbr⟩
                have HRh := Lib.hid HR
                clear HR hr1 hr2 hI hIb
                have hdw : decide ((0 : Int) < (wl : Int)) = true := by simp; omega
                have hcw : w5.cell? ⟨bw, ow, none⟩ = some (.int .i64 x0) := hcw
                have hwl1 : (0 : Int) < (wl : Int) := by omega
                go_wp2_with fail
                clear hHb hT3l hnT hH' hT4 hL4 hTy hLy hb5 hbwy hbyz hby hsz4 hbw4 hmn
                refine wp_region_any (by kernel_rfl) ?_
                (try (change wpAny _ _ _ _ _ _ _ (World.drew _)))
                refine wpAny_ready (rs := [0]) (by kernel_rfl) (by simp) ?_
                refine AllReady.cons rfl (fun K hK => ?_) AllReady.nil
                go_simp
                refine hK _ _ ?_; clear hK K
                refine wpAny_ready (rs := [1]) (by kernel_rfl) (by simp) ?_
                refine AllReady.cons rfl (fun K hK => ?_) AllReady.nil
                go_simp
                refine hK _ _ ?_; clear hK K
                refine wpAny_ready (rs := [2]) (by kernel_rfl) (by simp) ?_
                refine AllReady.cons rfl (fun K hK => ?_) AllReady.nil
                go_simp
                refine hK _ _ ?_; clear hK K
                refine wpAny_ready (rs := [3]) (by kernel_rfl) (by simp) ?_
                refine AllReady.cons rfl (fun K hK => ?_) AllReady.nil
                go_simp
                refine hK _ _ ?_; clear hK K
                refine wpAny_ready (rs := [4]) (by kernel_rfl) (by simp) ?_
                refine AllReady.cons rfl (fun K hK => ?_) AllReady.nil
                go_simp
                refine hK _ _ ?_; clear hK K
                refine wpAny_ready (rs := [5]) (by kernel_rfl) (by simp) ?_
                refine AllReady.cons rfl (fun K hK => ?_) AllReady.nil
                go_simp
                refine hK _ _ ?_; clear hK K
                refine wpAny_ready (rs := [6]) (by kernel_rfl) (by simp) ?_
                refine AllReady.cons rfl (fun K hK => ?_) AllReady.nil
                go_simp
                refine hK _ _ ?_; clear hK K
                refine wpAny_ready (rs := [7]) (by kernel_rfl) (by simp) ?_
                refine AllReady.cons rfl (fun K hK => ?_) AllReady.nil
                go_simp
                refine hK _ _ ?_; clear hK K
                refine wpAny_ready (rs := [8]) (by kernel_rfl) (by simp) ?_
                refine AllReady.cons rfl (fun K hK => ?_) AllReady.nil
                go_simp
                refine hK _ _ ?_; clear hK K
                refine wpAny_ready (rs := [9]) (by kernel_rfl) (by simp) ?_
                refine AllReady.cons rfl (fun K hK => ?_) AllReady.nil
                go_simp
                refine hK _ _ ?_; clear hK K
                refine wpAny_ready (rs := [10]) (by kernel_rfl) (by simp) ?_
                refine AllReady.cons rfl (fun K hK => ?_) AllReady.nil
                go_simp
                refine (HRh.out _ (Below.refl _ _).drew).mono ?_
                rintro e w7 ⟨br, or, rl, cr, rfl, hrl, hcr, hb7⟩
                have hb57 : Below w5.heap.size w5 w7 := ((Below.refl _ _).drew).trans hb7
                have hcw7 := (hb57.cell (p := ⟨bw, ow, none⟩) hbwl).trans hcw
                have hrl0 : ((rl : Int) == 0) = false := by simp; omega
                have hrl1 : (0 : Int) < (rl : Int) := by omega
                go_simp
                refine hK _ _ ?_; clear hK K
                refine wpAny_ready (rs := [11]) (by kernel_rfl) (by simp) ?_
                refine AllReady.cons rfl (fun K hK => ?_) AllReady.nil
                go_simp
                refine hK _ _ ?_; clear hK K
                refine wpAny_ready (rs := [12]) (by kernel_rfl) (by simp) ?_
                refine AllReady.cons rfl (fun K hK => ?_) AllReady.nil
                go_simp
                refine hK _ _ ?_; clear hK K
                refine wpAny_ready (rs := [13]) (by kernel_rfl) (by simp) ?_
                refine AllReady.cons rfl (fun K hK => ?_) AllReady.nil
                go_simp
                refine hK _ _ ?_; clear hK K
                refine wpAny_take (i := 14) (v := .pointer (some ⟨p, 0, none⟩)) rfl (by kernel_rfl) (by kernel_rfl) (by kernel_rfl) (fun _ _ _ h => h) (Or.inl ⟨by rfl, fun w => by go_simp⟩) ?_
                refine wpAny_take (i := 18) (v := .slice (some ⟨bw, ow, none⟩) wl cw) rfl (by kernel_rfl) (by kernel_rfl) (by kernel_rfl) (fun _ _ _ h => h) (Or.inl ⟨by rfl, fun w => by go_simp⟩) ?_
                refine wpAny_take (i := 19) (v := .pointer (some ⟨bw, ow, none⟩)) rfl (by kernel_rfl) (by kernel_rfl) (by kernel_rfl) (fun _ _ _ h => h) (Or.inl ⟨by rfl, fun w => by go_simp⟩) ?_
                refine wpAny_ready (rs := [15, 20]) (by kernel_rfl) (by simp) ?_
                refine AllReady.cons rfl (fun K hK => ?_) (AllReady.cons rfl (fun K hK => ?_) AllReady.nil)
                · go_simp
                  refine (HRh.out _ hb57).mono ?_
                  rintro e w8 ⟨br2, or2, rl2, cr2, rfl, hrl2, hcr2, hb8⟩
                  have hb58 : Below w5.heap.size w5 w8 := hb57.trans (hb8.mono hb57.size)
                  have hcw8 := (hb58.cell (p := ⟨bw, ow, none⟩) hbwl).trans hcw
                  have hrl3 : (0 : Int) < (rl2 : Int) := by omega
                  go_simp
                  refine hK _ _ ?_; clear hK K
                  refine wpAny_take (i := 16) (v := .pointer (some ⟨br2, or2, none⟩)) rfl (by kernel_rfl) (by kernel_rfl) (by kernel_rfl) (fun _ _ _ h => h) (Or.inl ⟨by rfl, fun w => by go_simp⟩) ?_
                  refine wpAny_ready (rs := [17, 20]) (by kernel_rfl) (by simp) ?_
                  refine AllReady.cons rfl (fun K hK => ?_) (AllReady.cons rfl (fun K hK => ?_) AllReady.nil)
                  · go_simp
                    refine hK _ _ ?_; clear hK K
                    refine wpAny_ready (rs := [20]) (by kernel_rfl) (by simp) ?_
                    refine AllReady.cons rfl (fun K hK => ?_) AllReady.nil
                    go_simp
                    refine hK _ _ ?_; clear hK K
                    refine wpAny_ready (rs := [21]) (by kernel_rfl) (by simp) ?_
                    refine AllReady.cons rfl (fun K hK => ?_) AllReady.nil
                    go_simp
                    refine hK _ _ ?_; clear hK K
                    refine wpAny_ready (rs := [22]) (by kernel_rfl) (by simp) ?_
                    refine AllReady.cons rfl (fun K hK => ?_) AllReady.nil
                    go_simp
                    refine hK _ _ ?_; clear hK K
                    refine wpAny_ready (rs := [23]) (by kernel_rfl) (by simp) ?_
                    refine AllReady.cons rfl (fun K hK => ?_) AllReady.nil
                    go_simp
                    refine hK _ _ ?_; clear hK K
                    refine wpAny_done (by kernel_rfl) ?_ _
                    go_wp2
                    go_roundw
                    case rel => exact ⟨x + 1, a0 :: T1, L', A5, A6, n5, c5, n6, c6, rows5, rows6, by omega, by go_num, rfl, by omega, by omega, hinv', hT5.below hb58, hL5.below hb58, hbw5.trans (hb58.mono hbw5.size)⟩
                    case measure => simp [intOf]; omega
                  · go_simp
                    refine hK _ _ ?_; clear hK K
                    refine wpAny_ready (rs := [17]) (by kernel_rfl) (by simp) ?_
                    refine AllReady.cons rfl (fun K hK => ?_) AllReady.nil
                    go_simp
                    refine hK _ _ ?_; clear hK K
                    refine wpAny_ready (rs := [21]) (by kernel_rfl) (by simp) ?_
                    refine AllReady.cons rfl (fun K hK => ?_) AllReady.nil
                    go_simp
                    refine hK _ _ ?_; clear hK K
                    refine wpAny_ready (rs := [22]) (by kernel_rfl) (by simp) ?_
                    refine AllReady.cons rfl (fun K hK => ?_) AllReady.nil
                    go_simp
                    refine hK _ _ ?_; clear hK K
                    refine wpAny_ready (rs := [23]) (by kernel_rfl) (by simp) ?_
                    refine AllReady.cons rfl (fun K hK => ?_) AllReady.nil
                    go_simp
                    refine hK _ _ ?_; clear hK K
                    refine wpAny_done (by kernel_rfl) ?_ _
                    go_wp2
                    go_roundw
                    case rel => exact ⟨x + 1, a0 :: T1, L', A5, A6, n5, c5, n6, c6, rows5, rows6, by omega, by go_num, rfl, by omega, by omega, hinv', hT5.below hb58, hL5.below hb58, hbw5.trans (hb58.mono hbw5.size)⟩
                    case measure => simp [intOf]; omega
                · go_simp
                  refine hK _ _ ?_; clear hK K
                  refine wpAny_ready (rs := [15]) (by kernel_rfl) (by simp) ?_
                  refine AllReady.cons rfl (fun K hK => ?_) AllReady.nil
                  go_simp
                  refine (HRh.out _ hb57).mono ?_
                  rintro e w8 ⟨br2, or2, rl2, cr2, rfl, hrl2, hcr2, hb8⟩
                  have hb58 : Below w5.heap.size w5 w8 := hb57.trans (hb8.mono hb57.size)
                  have hcw8 := (hb58.cell (p := ⟨bw, ow, none⟩) hbwl).trans hcw
                  have hrl3 : (0 : Int) < (rl2 : Int) := by omega
                  go_simp
                  refine hK _ _ ?_; clear hK K
                  refine wpAny_ready (rs := [16]) (by kernel_rfl) (by simp) ?_
                  refine AllReady.cons rfl (fun K hK => ?_) AllReady.nil
                  go_simp
                  refine hK _ _ ?_; clear hK K
                  refine wpAny_ready (rs := [17]) (by kernel_rfl) (by simp) ?_
                  refine AllReady.cons rfl (fun K hK => ?_) AllReady.nil
                  go_simp
                  refine hK _ _ ?_; clear hK K
                  refine wpAny_ready (rs := [21]) (by kernel_rfl) (by simp) ?_
                  refine AllReady.cons rfl (fun K hK => ?_) AllReady.nil
                  go_simp
                  refine hK _ _ ?_; clear hK K
                  refine wpAny_ready (rs := [22]) (by kernel_rfl) (by simp) ?_
                  refine AllReady.cons rfl (fun K hK => ?_) AllReady.nil
                  go_simp
                  refine hK _ _ ?_; clear hK K
                  refine wpAny_ready (rs := [23]) (by kernel_rfl) (by simp) ?_
                  refine AllReady.cons rfl (fun K hK => ?_) AllReady.nil
                  go_simp
                  refine hK _ _ ?_; clear hK K
                  refine wpAny_done (by kernel_rfl) ?_ _
                  go_wp2
                  go_roundw
                  case rel => exact ⟨x + 1, a0 :: T1, L', A5, A6, n5, c5, n6, c6, rows5, rows6, by omega, by go_num, rfl, by omega, by omega, hinv', hT5.below hb58, hL5.below hb58, hbw5.trans (hb58.mono hbw5.size)⟩
                  case measure => simp [intOf]; omega
            · have hmb : ((m : Int) == 0) = false := by simp; omega
              go_wp2_with fail
              go_quiet (fail)
              go_wp2
              go_roundw
              case rel => exact ⟨x + 1, T', L', A5, A6, n5, c5, n6, c6, rows5, rows6, by omega, by go_num, rfl, by omega, by omega, hinv', hT5.drewN _, hL5.drewN _, below_drewN hbw5 _⟩
              case measure => simp [intOf]; omega
      · obtain rfl : x = nl := by omega
        clear hl hL hlt hn2
        have hfh := free_held hinv
        have hinv4 := Inv.free (sortedI (idsT T (heldT T))) hinv
        have hlen4 := freeT_length (sortedI (idsT T (heldT T))) T
        have hho := holdL_any _ _ _ _ _ _ _ hn wr hT
        generalize sortedI (idsT T (heldT T)) = hs at *
        have Hho := Lib.hid hho
        clear hho
        go_wp2_with fail
        refine Hho.out.mono ?_
        intro e w3 hgo
        obtain ⟨Ah, ch, rfl, hH, hHb, hb3⟩ := hgo.gives
        clear hgo Hho
        have hbw3 := hbr.trans (hb3.mono hbr.size)
        go_wp2_with fail
        refine (free_any _ _ _ _ _ _ _ _ _ _ _ _ (hT.below hb3) hH (fun a e h0 hf => ?_)).mono ?_
        · have := hHb a e h0; have := (hT.footLt _ hf).2; omega
        rintro e w4 ⟨A4, n4, c4, rows4, rfl, hT4, hbut4, hf4⟩
        have hbw4 := hbw3.trans ((hT.below hb3).footBelow hbut4)
        clear hT hbut4 hf4 hH hHb hbw3 hb3 hbr
        generalize (freeT T hs).2 = T4 at *
        generalize (freeT T hs).1 = code4 at *
        obtain ⟨hfr4, _⟩ := hfh
        have hT4l : T4.length ≤ x := by omega
        clear hinv hTl hnT hn hlen4
        clear wr
        go_wp2_with fail
        go_loopw [10] (fun i wr => ∃ (y : Nat) (T : List AskD) (A : Option Addr) (n c : Nat) (rows : List (List Value)), y ≤ x ∧ i = .int .i64 y ∧ T.length + y ≤ x ∧ Inv T ∧ Free1 T ∧ TblAt wr w.heap.size p A n c T rows ∧ Below w.heap.size w wr) (fun i _ => x + 1 - (intOf i).toNat)
        case atStart => exact ⟨0, T4, A4, n4, c4, rows4, Nat.zero_le _, rfl, by omega, hinv4, hfr4, hT4, hbw4⟩
        case round =>
          clear hT4 hfr4 hinv4 hT4l hbw4
          obtain ⟨y, T, A, n, c, rows, hy, rfl, hTy, hinv, hfr, hT, hbr⟩ := hrel
          have hyx : (y : Int) ≤ (x : Int) := by omega
          have hnT := hT.lenT
          have hn : n ≤ 100000 := by omega
          have hrl := readyL_any _ _ _ _ _ _ _ hn wr hT
          cases T with
          | nil =>
            have h00 : idsT [] (readyT []) = [] := rfl
            rw [h00] at hrl
            have Hrl := Lib.hid hrl
            have hwl := fun W (hW : Below wr.heap.size wr W) => waitL_any _ _ _ _ _ _ _ hn W (hT.below hW)
            have hhl := fun W (hW : Below wr.heap.size wr W) => holdL_any _ _ _ _ _ _ _ hn W (hT.below hW)
            have h01 : idsT [] (fun k => !heldT [] k) = [] := rfl
            have h02 : sortedI (idsT [] (heldT [])) = [] := by simp [idsT, sortedI]
            rw [h01] at hwl
            rw [h02] at hhl
            have Hwl := Lib.hid hwl
            have Hhl := Lib.hid hhl
            clear h00 h01 h02 hrl hwl hhl hnT
            go_wp2_with fail
            refine Hrl.out.mono ?_
            intro e w5 hgo
            obtain ⟨A5, c5, rfl, _, hb5⟩ := hgo
            go_wp2_with fail
            refine (Hwl.out _ hb5).mono ?_
            intro e w6 hgo
            obtain ⟨A6, c6, rfl, _, hb6⟩ := hgo
            go_wp2_with fail
            refine (Hhl.out _ (hb5.trans (hb6.mono hb5.size))).mono ?_
            intro e w7 hgo
            obtain ⟨A7, c7, rfl, _, hb7⟩ := hgo
            have hb57 := (hb5.trans (hb6.mono hb5.size)).trans (hb7.mono (hb5.trans (hb6.mono hb5.size)).size)
            go_wp2_with fail
            go_ret
            exact ⟨rfl, hbr.trans (hb57.mono hbr.size)⟩
          | cons a0 T1 =>
            obtain ⟨x0, r1, r2, hr1, _⟩ := first_ready hfr (by simp)
            have hinv5 := Inv.grant (idsT (a0 :: T1) (readyT (a0 :: T1))) hinv
            have hlen5 := grantT_length (idsT (a0 :: T1) (readyT (a0 :: T1))) (a0 :: T1)
            have hheld5 := grant_first hfr (by simp)
            have hpos : 0 < (idsT (a0 :: T1) (readyT (a0 :: T1))).length := by rw [hr1]; simp
            generalize idsT (a0 :: T1) (readyT (a0 :: T1)) = rs at *
            obtain ⟨m, Hm⟩ : ∃ m, Hid (rs.length = m) := ⟨_, rfl⟩
            rw [Hm.out] at hpos
            have hm0 : ((m : Int) == 0) = false := by simp; omega
            have Hrl := Lib.hid hrl
            clear hrl hr1
            go_wp2_with fail
            refine Hrl.out.mono ?_
            intro e w5 hgo
            obtain ⟨A5, c5, rfl, hI5, hIb5, hb5⟩ := hgo.gives
            rw [Hm.out] at hI5 hIb5 ⊢
            go_wp2_with fail
            refine (grant_any _ _ _ _ _ _ _ _ _ _ _ _ (hT.below hb5) hI5 (fun a e h0 hf => ?_)).mono ?_
            · have := hIb5 a e h0; have := (hT.footLt _ hf).2; omega
            rintro e w6 ⟨A6, n6, c6, rows6, rfl, hT6, hbut6, hf6⟩
            have hbw6 := (hbr.trans (hb5.mono hbr.size)).trans ((hT.below hb5).footBelow hbut6)
            clear hT hbut6 hf6 hI5 hIb5 hgo Hrl hb5 hinv hfr hnT
            generalize (grantT (a0 :: T1) rs).2 = T6 at *
            generalize (grantT (a0 :: T1) rs).1 = code6 at *
            have hT6l := hT6.lenT
            have hn6 : n6 ≤ 100000 := by omega
            have hls : T6.length + y ≤ x := by omega
            have hnz := held_ids hheld5
            have hfh := free_held hinv5
            have hinv7 := Inv.free (sortedI (idsT T6 (heldT T6))) hinv5
            have hho := fun W (hW : Below w6.heap.size w6 W) => holdL_any _ _ _ _ _ _ _ hn6 W (hT6.below hW)
            generalize sortedI (idsT T6 (heldT T6)) = hs at *
            obtain ⟨q, Hq⟩ : ∃ q, Hid (hs.length = q) := ⟨_, rfl⟩
            have hq0 : ((q : Int) == 0) = false := by rw [← Hq.out]; simpa using hnz
            have hho' := fun W (hW : Below w6.heap.size w6 W) => (hho W hW).mono fun e w' h => h.gives
            unfold GivesI at hho'
            simp only [Hq.out] at hho'
            have Hho := Lib.hid hho'
            have Hfh := Lib.hid hfh
            have hqn : q ≠ 0 := by rw [← Hq.out]; exact hnz
            clear hho hho' hnz hfh hheld5 hT6l hlen5 hTy
            have hend : ∀ W, Below w6.heap.size w6 W → ∀ (A7 : Option Addr) (c7 : Nat) (W7 : World), IAt' W7 A7 q c7 hs → (∀ a, A7 = some a → 0 < q → W.heap.size ≤ a.block) → Below W.heap.size W W7 →
                Calls Try.prog 36 #[.pointer (some ⟨p, 0, none⟩), .slice A7 q c7] W7 fun e w8 => ∃ (v : Int) (T8 : List AskD) (A8 : Option Addr) (n8 c8 : Nat) (rows8 : List (List Value)), e = .returned (.int .i64 v) ∧ T8.length + (y + 1) ≤ x ∧ Inv T8 ∧ Free1 T8 ∧ TblAt w8 w.heap.size p A8 n8 c8 T8 rows8 ∧ Below w.heap.size w w8 := fun W hW A7 c7 W7 hI7 hIb7 hb7 => by
              have hbw7 := hW.trans (hb7.mono hW.size)
              refine (free_any _ _ _ _ _ _ _ _ _ _ _ _ (hT6.below hbw7) hI7 (fun a e h0 hf => ?_)).mono ?_
              · have := hIb7 a e h0; have := (hT6.footLt _ hf).2; have := hW.size; omega
              rintro e w8 ⟨A8, n8, c8, rows8, rfl, hT8, hbut8, hf8⟩
              obtain ⟨k1, k2⟩ := Hfh.out
              rw [Hq.out] at k2
              exact ⟨_, _, A8, n8, c8, rows8, rfl, by omega, hinv7, k1, hT8, (hbw6.trans (hbw7.mono hbw6.size)).trans ((hT6.below hbw7).footBelow hbut8)⟩
            have Hend := Lib.hid hend
            clear hend hinv7 hinv5 hT6 hls
            by_cases hc0 : code6 = 0
            · subst hc0
              go_wp2_with fail
              refine (Hho.out _ (Below.refl _ _)).mono ?_
              rintro e w7 ⟨A7, c7, rfl, hI7, hIb7, hb7⟩
              go_wp2_with fail
              refine (Hend.out _ (Below.refl _ _) _ _ _ hI7 hIb7 hb7).mono ?_
              rintro e w8 ⟨v8, T8, A8, n8, c8, rows8, rfl, h1, h2, h3, h4, h5⟩
              go_wp2_with fail
              go_roundw
              case rel => exact ⟨y + 1, T8, A8, n8, c8, rows8, by omega, by go_num, h1, h2, h3, h4, h5⟩
              case measure => simp [intOf]; omega
            · have hcb : (code6 != 0) = true := by simpa using hc0
              go_wp2_with fail
              refine (Hho.out _ (Below.refl _ _)).mono ?_
              rintro e w9 ⟨A9, c9, rfl, hI9, hIb9, hb9⟩
              go_wp2_with fail
              refine (Hho.out _ hb9).mono ?_
              rintro e w7 ⟨A7, c7, rfl, hI7, hIb7, hb7⟩
              go_wp2_with fail
              refine (Hend.out _ hb9 _ _ _ hI7 hIb7 hb7).mono ?_
              rintro e w8 ⟨v8, T8, A8, n8, c8, rows8, rfl, h1, h2, h3, h4, h5⟩
              go_wp2_with fail
              go_roundw
              case rel => exact ⟨y + 1, T8, A8, n8, c8, rows8, by omega, by go_num, h1, h2, h3, h4, h5⟩
              case measure => simp [intOf]; omega
end Go.Proofs.Ytinpihplkikldaa
