/- Parts of this proof, one behind the other: RefK, RefW. -/
import Derived.Test.YtgihhkfppnhdpaaSp19
import Derived.Outline
import Derived.Test.YtgihhkfppnhdpaaSp17
namespace Go.Proofs.Ytgihhkfppnhdpaa
open Go.RowKit Go.Afx

theorem prBoxK {w : World} {g : Nat} {T : TypeId} {v0 v1 v2 v3 v4 v5 : Value} (h : IsBlk w g T #[v0, v1, v2, v3, v4, v5]) :
    w.cell? ⟨g, 0, none⟩ = some v0 ∧ w.cell? ⟨g, 1, none⟩ = some v1 ∧ w.cell? ⟨g, 2, none⟩ = some v2 ∧ w.cell? ⟨g, 3, none⟩ = some v3 ∧ w.cell? ⟨g, 4, none⟩ = some v4 ∧ w.cell? ⟨g, 5, none⟩ = some v5 ∧ g < w.heap.size := by
  have h0 := h.cell 0; have h1 := h.cell 1; have h2 := h.cell 2; have h3 := h.cell 3; have h4 := h.cell 4; have h5 := h.cell 5
  simp at h0 h1 h2 h3 h4 h5
  exact ⟨h0, h1, h2, h3, h4, h5, h.lt⟩
theorem atB_snoc {part : ByteArray} {l : List Co} {k : Nat} {x : Co} (h : l[k]? = some x) : atB part (l.take (k + 1)) = (atB part (l.take k) || decide (x.name = part)) := by
  unfold atB
  rw [take_succ_of' h, List.any_append]
  simp [Bool.or_assoc]
theorem strE (s : ByteArray) : (s.toList == []) = noS s := by
  cases h : noS s
  · have := str_some h
    cases hq : s.toList with
    | nil => rw [hq] at this; cases this
    | cons a r => rfl
  · rw [str_empty h]; rfl

set_option maxRecDepth 100000 in
set_option maxHeartbeats 4000000 in
theorem rheads_any (F : Nat → Prop) (name src part : ByteArray) (fuel : Int) (Ap Ab : Option Addr) (np cp nb cb : Nat) (params : List Co) (w : World) (hp : LsAt F w 2 CoRow Ap np cp params) (okn : okS name) (oks : okS src) :
    Calls Try.prog 28 #[.agg #[.string name, .string src, .string part, .int .i64 fuel, .slice Ap np cp, .slice Ab nb cb]] w fun e w' => e = .returned (.bool (refH name src part fuel params)) ∧ Below w.heap.size w w' := by
  have hnp := hp.n_le
  have Hl := Lib.hid (LsAt.len hp)
  obtain ⟨w2, Hw2⟩ : ∃ w2, Hid (w2 = w.alloc (.cells #[.string name, .string src, .string part, .int .i64 fuel, .slice Ap np cp, .slice Ab nb cb] 34)) := ⟨_, rfl⟩
  have hb2 : Below w.heap.size w w2 := by rw [Hw2.out]; exact (Below.refl _ _).alloc (Nat.le_refl _) _
  have hx2 : IsBlk w2 w.heap.size 34 #[.string name, .string src, .string part, .int .i64 fuel, .slice Ap np cp, .slice Ab nb cb] := by rw [Hw2.out]; exact IsBlk.laid _ _ _
  have HX := Lib.hid (fun W (hW : Below w2.heap.size w2 W) => prBoxK (hx2.as_was (hW.block _ hx2.lt)))
  have Hp2 := Lib.hid (fun W (hW : Below w2.heap.size w2 W) => (hp.below hb2).below hW)
  have Hb2 := Lib.hid hb2
  obtain ⟨x0, x1, x2, x3, x4, x5, xl⟩ := prBoxK hx2
  have hse := strE part
  obtain ⟨a0, Ha0⟩ : ∃ b, Hid (noS part = b) := ⟨_, rfl⟩
  rw [Ha0.out] at hse
  have Hat0 : Hid (atB part [] = a0) := Lib.hid (by unfold atB; rw [Ha0.out]; simp)
  have H22 := Lib.hid (Below.refl w2.heap.size w2)
  clear hp hx2 hb2
  go_enter Try.func28, Try.ntmps28
  go_upto_region 1 with (fail)
  rw [← Hw2.out]
  go_wp2
  go_loopw [3, 4] (fun u3 i wr => ∃ k : Nat, k ≤ np ∧ i = .int .i64 k ∧ u3 = .bool (atB part (params.take k)) ∧ (∀ c ∈ params.take k, (freeB c.name && kindB c) = true) ∧ ((params.take k).map Co.name).Nodup ∧ Below w2.heap.size w2 wr) (fun _ i _ => np - (intOf i).toNat)
  case atStart => exact ⟨0, Nat.zero_le _, rfl, by rw [List.take_zero, Hat0.out], by simp, by simp, H22.out⟩
  case round =>
    clear x0 x1 x2 x3 x4 x5 xl hse
    generalize wr = w7 at *
    obtain ⟨k, hk, rfl, rfl, hall, hnd, hB7⟩ := hrel
    obtain ⟨av, Hav⟩ : ∃ b, Hid (atB part (params.take k) = b) := ⟨_, rfl⟩
    rw [Hav.out]
    have Hall := Lib.hid hall
    have Hnd := Lib.hid hnd
    have H27 := Lib.hid hB7
    have H07 := Lib.hid (Hb2.out.trans (hB7.mono Hb2.out.size))
    obtain ⟨z0, z1, z2, z3, z4, z5, zl⟩ := HX.out w7 hB7
    clear hall hnd hB7
    by_cases hlt : k < np
    · obtain ⟨b, o, c, rfl, hbl, hck, okc, oki, hc0, hc1⟩ := coAt (Hp2.out w7 H27.out) hlt
      have Hck := Lib.hid hck
      have hstep := atB_snoc (part := part) hck
      rw [Hav.out] at hstep
      have Hstep := Lib.hid hstep
      obtain ⟨q, Hq⟩ : ∃ q, Hid (freeB c.name = q) := ⟨_, rfl⟩
      have hFc := fun W => freeRef_any c.name W okc
      rw [Hq.out] at hFc
      have HFc := Lib.hid hFc
      clear hck hFc hstep
      have Hno : Hid (∀ v : Bool, (freeB c.name && kindB c) = false → refH name src part fuel params = false) := Lib.hid (fun _ hv => by
        have h1 : params.all (fun c => freeB c.name && kindB c) = false := by rw [List.all_eq_false]; exact ⟨c, List.mem_of_getElem? Hck.out, by rw [hv]; simp⟩
        unfold refH; rw [h1]; simp)
      cases q
      · go_wp2_with (go_at_call 10; refine (HFc.out _).mono ?_; rintro e w8 ⟨rfl, hb8⟩)
        go_ret
        exact ⟨ret_bool (by rw [Hno.out true (by rw [Hq.out]; rfl)]), H07.out.trans (hb8.mono H07.out.size)⟩
      have Hcc := Lib.hid (fun W (hW : Below w2.heap.size w2 W) => coAt (Hp2.out W hW) hlt)
      by_cases hk1 : c.kind < 1
      · have Hkb : Hid (kindB c = false) := Lib.hid (by unfold kindB; simp; omega)
        go_wp2_with (go_at_call 10; refine (HFc.out _).mono ?_; rintro e w8 ⟨rfl, hb8⟩; (obtain ⟨t0, t1, t2, t3, t4, t5, tl⟩ := HX.out w8 (H27.out.trans (hb8.mono H27.out.size))); (have s0 := (hb8.cell (p := ⟨b, o + k * 2, none⟩) hbl).trans hc0); (have s1 := (hb8.cell (p := ⟨b, o + k * 2 + 1, none⟩) hbl).trans hc1))
        go_ret
        exact ⟨ret_bool (by rw [Hno.out true (by rw [Hkb.out]; simp)]), H07.out.trans (hb8.mono H07.out.size)⟩
      by_cases hk3 : 3 < c.kind
      · have Hkb : Hid (kindB c = false) := Lib.hid (by unfold kindB; simp; omega)
        go_wp2_with (go_at_call 10; refine (HFc.out _).mono ?_; rintro e w8 ⟨rfl, hb8⟩; (obtain ⟨t0, t1, t2, t3, t4, t5, tl⟩ := HX.out w8 (H27.out.trans (hb8.mono H27.out.size))); (have s0 := (hb8.cell (p := ⟨b, o + k * 2, none⟩) hbl).trans hc0); (have s1 := (hb8.cell (p := ⟨b, o + k * 2 + 1, none⟩) hbl).trans hc1))
        go_ret
        exact ⟨ret_bool (by rw [Hno.out true (by rw [Hkb.out]; simp)]), H07.out.trans (hb8.mono H07.out.size)⟩
      have Hkb : Hid (kindB c = true) := Lib.hid (by unfold kindB; simp; omega)
      obtain ⟨he, Hhe⟩ : ∃ b, Hid (decide (c.name = part) = b) := ⟨_, rfl⟩
      have heq : (part.toList == c.name.toList) = he := by rw [bs_eq, ← Hhe.out, decide_eq_decide]; exact eq_comm
      cases av
      all_goals
        go_wp2_with (go_at_call 10; refine (HFc.out _).mono ?_; rintro e w8 ⟨rfl, hb8⟩; (obtain ⟨t0, t1, t2, t3, t4, t5, tl⟩ := HX.out w8 (H27.out.trans (hb8.mono H27.out.size))); (have s0 := (hb8.cell (p := ⟨b, o + k * 2, none⟩) hbl).trans hc0); (have s1 := (hb8.cell (p := ⟨b, o + k * 2 + 1, none⟩) hbl).trans hc1))
        go_quiet (fail)
        go_wp2
        have H28 := Lib.hid (below_drewN (H27.out.trans (hb8.mono H27.out.size)) nq)
        clear z0 z1 z2 z3 z4 z5 zl t0 t1 t2 t3 t4 t5 tl s0 s1 heq
        go_loopw [5] (fun i wr => ∃ j : Nat, j ≤ k ∧ i = .int .i64 j ∧ (∀ y ∈ params.take j, (y.name.toList == c.name.toList) = false) ∧ Below w2.heap.size w2 wr) (fun i _ => k - (intOf i).toNat)
        case atStart => exact ⟨0, Nat.zero_le _, rfl, by simp, H28.out⟩
        case round =>
          obtain ⟨j, hj, rfl, hne', hB9⟩ := hrel
          have Hne' := Lib.hid hne'
          clear hne'
          obtain ⟨z0, z1, z2, z3, z4, z5, zl⟩ := HX.out wr hB9
          by_cases hjk : j < k
          · obtain ⟨b', o', y, hA', hbl2, hyj, _, _, hd0, hd1⟩ := coAt (Hp2.out wr hB9) (k := j) (by omega)
            obtain ⟨b'', o'', y'', hA'', hbl3, hyk, _, _, hd2, hd3⟩ := Hcc.out wr hB9
            simp only [Option.some.injEq, Addr.mk.injEq, and_true] at hA' hA''
            obtain ⟨rfl, rfl⟩ := hA'
            obtain ⟨rfl, rfl⟩ := hA''
            have e2 := Hck.out.symm.trans hyk
            injection e2 with e2
            subst e2
            have Hyj := Lib.hid hyj
            clear hyj hyk
            by_cases hsame : (y.name.toList == c.name.toList) = true
            · have Hf : Hid (refH name src part fuel params = false) := Lib.hid (by
                have h1 : decide (params.map Co.name).Nodup = false := by
                  rw [decide_eq_false_iff_not]
                  intro hn2
                  have hyx : y.name = c.name := by simpa [bs_eq] using hsame
                  have a1 := (List.getElem?_eq_some_iff.1 Hyj.out)
                  have a2 := (List.getElem?_eq_some_iff.1 Hck.out)
                  have h3 := (List.getElem_inj (xs := params.map Co.name) (i := j) (j := k) (h₀ := by simpa using a1.1) (h₁ := by simpa using a2.1) hn2).1 (by simp [a1.2, a2.2, hyx])
                  omega
                unfold refH; rw [h1]; simp)
              have H09 := Lib.hid (Hb2.out.trans (hB9.mono Hb2.out.size))
              go_wp2
              go_quiet (fail)
              go_wp2
              go_ret
              exact ⟨ret_bool (by rw [Hf.out]), below_drewN H09.out _⟩
            · have hsame : (y.name.toList == c.name.toList) = false := by simpa using hsame
              have Hnx := Lib.hid (mem_take_succ Hyj.out Hne'.out hsame)
              go_wp2
              go_quiet (fail)
              go_wp2
              go_roundw
              case rel => exact ⟨j + 1, by omega, by go_num, Hnx.out, below_drewN hB9 _⟩
              case measure => simp [intOf]; omega
          · have Hf1 := Lib.hid (mem_take_succ Hck.out Hall.out (P := fun c => (freeB c.name && kindB c) = true) (by rw [Hq.out, Hkb.out]; rfl))
            have Hn1 : Hid (((params.take (k + 1)).map Co.name).Nodup) := Lib.hid (by
              rw [take_succ_of' Hck.out, List.map_append, List.nodup_append]
              refine ⟨Hnd.out, by simp, fun a ha b hb e => ?_⟩
              simp at hb
              obtain ⟨y, hy, rfl⟩ := List.mem_map.1 ha
              have hjk' : j = k := by omega
              have h5 := Hne'.out y (by rw [hjk']; exact hy)
              rw [e, hb] at h5
              simp at h5)
            go_wp2
            go_roundw
            case rel => exact ⟨k + 1, by omega, by go_num, by rw [Hstep.out, Hhe.out]; cases he <;> rfl, Hf1.out, Hn1.out, hB9⟩
            case measure => simp [intOf]; omega
    · have Hfull : Hid (params.all (fun c => freeB c.name && kindB c) = true ∧ decide (params.map Co.name).Nodup = true ∧ atB part params = av) := Lib.hid (by
        have h1 := Hall.out
        have h2 := Hnd.out
        have h3 := Hav.out
        rw [List.take_of_length_le (by rw [Hl.out]; omega)] at h1 h2 h3
        exact ⟨by rw [List.all_eq_true]; exact h1, by simpa using h2, h3⟩)
      obtain ⟨es, Hes⟩ : ∃ b, Hid (noS src = b) := ⟨_, rfl⟩
      obtain ⟨q2, Hq2⟩ : ∃ b, Hid (freeB src = b) := ⟨_, rfl⟩
      obtain ⟨q1, Hq1⟩ : ∃ b, Hid (freeB name = b) := ⟨_, rfl⟩
      have HR : Hid (refH name src part fuel params = (!(!es && (!q2 || decide (0 < np))) && (q1 && decide (np ≤ 8) && av && decide (1 ≤ fuel) && decide (fuel ≤ 2000)))) := Lib.hid (by
        unfold refH; rw [Hfull.out.1, Hfull.out.2.1, Hfull.out.2.2, Hes.out, Hq2.out, Hq1.out, Hl.out]; simp)
      have hF1 := fun W => freeRef_any name W okn
      have hF2 := fun W => freeRef_any src W oks
      rw [Hq1.out] at hF1
      rw [Hq2.out] at hF2
      have HF1 := Lib.hid hF1
      have HF2 := Lib.hid hF2
      clear hF1 hF2
      have hes := Hes.out
      cases es
      · have gs := str_some hes
        have gs2 : (src.toList == []) = false := by rw [strE, hes]
        have gs3 : (src.toList != []) = true := by show (!(src.toList == [])) = true; rw [gs2]; rfl
        clear hes
        cases q2
        · skip
          go_wp2_with (first | (go_at_call 10; (with_reducible refine (HF2.out _).mono ?_); rintro e w8 ⟨rfl, hb8⟩; have hB8 := H27.out.trans (hb8.mono H27.out.size); obtain ⟨t0, t1, t2, t3, t4, t5, tl⟩ := HX.out w8 hB8) | (go_at_call 10; (with_reducible refine (HF1.out _).mono ?_); rintro e w9 ⟨rfl, hb9⟩; have hB9 : Below w2.heap.size w2 w9 := (by first | exact hB8.trans (hb9.mono hB8.size) | exact H27.out.trans (hb9.mono H27.out.size)); obtain ⟨s0, s1, s2, s3, s4, s5, sl⟩ := HX.out w9 hB9))
          go_ret
          exact ⟨ret_bool (by rw [HR.out]; simp [*]), by first | exact Hb2.out.trans (hB9.mono Hb2.out.size) | exact Hb2.out.trans (hB8.mono Hb2.out.size)⟩
        by_cases h0 : 0 < np
        · have d0 : decide ((0 : Int) < (np : Int)) = true := by simp; omega
          go_wp2_with (first | (go_at_call 10; (with_reducible refine (HF2.out _).mono ?_); rintro e w8 ⟨rfl, hb8⟩; have hB8 := H27.out.trans (hb8.mono H27.out.size); obtain ⟨t0, t1, t2, t3, t4, t5, tl⟩ := HX.out w8 hB8) | (go_at_call 10; (with_reducible refine (HF1.out _).mono ?_); rintro e w9 ⟨rfl, hb9⟩; have hB9 : Below w2.heap.size w2 w9 := (by first | exact hB8.trans (hb9.mono hB8.size) | exact H27.out.trans (hb9.mono H27.out.size)); obtain ⟨s0, s1, s2, s3, s4, s5, sl⟩ := HX.out w9 hB9))
          go_ret
          exact ⟨ret_bool (by rw [HR.out]; simp [*]), by first | exact Hb2.out.trans (hB9.mono Hb2.out.size) | exact Hb2.out.trans (hB8.mono Hb2.out.size)⟩
        have d0 : decide ((0 : Int) < (np : Int)) = false := by simp; omega
        cases q1
        · skip
          go_wp2_with (first | (go_at_call 10; (with_reducible refine (HF2.out _).mono ?_); rintro e w8 ⟨rfl, hb8⟩; have hB8 := H27.out.trans (hb8.mono H27.out.size); obtain ⟨t0, t1, t2, t3, t4, t5, tl⟩ := HX.out w8 hB8) | (go_at_call 10; (with_reducible refine (HF1.out _).mono ?_); rintro e w9 ⟨rfl, hb9⟩; have hB9 : Below w2.heap.size w2 w9 := (by first | exact hB8.trans (hb9.mono hB8.size) | exact H27.out.trans (hb9.mono H27.out.size)); obtain ⟨s0, s1, s2, s3, s4, s5, sl⟩ := HX.out w9 hB9))
          go_ret
          exact ⟨ret_bool (by rw [HR.out]; simp [*]), by first | exact Hb2.out.trans (hB9.mono Hb2.out.size) | exact Hb2.out.trans (hB8.mono Hb2.out.size)⟩
        have h8 : np ≤ 8 := by omega
        have d8 : decide ((np : Int) ≤ 8) = true := by simp; omega
        cases av
        · skip
          go_wp2_with (first | (go_at_call 10; (with_reducible refine (HF2.out _).mono ?_); rintro e w8 ⟨rfl, hb8⟩; have hB8 := H27.out.trans (hb8.mono H27.out.size); obtain ⟨t0, t1, t2, t3, t4, t5, tl⟩ := HX.out w8 hB8) | (go_at_call 10; (with_reducible refine (HF1.out _).mono ?_); rintro e w9 ⟨rfl, hb9⟩; have hB9 : Below w2.heap.size w2 w9 := (by first | exact hB8.trans (hb9.mono hB8.size) | exact H27.out.trans (hb9.mono H27.out.size)); obtain ⟨s0, s1, s2, s3, s4, s5, sl⟩ := HX.out w9 hB9))
          go_ret
          exact ⟨ret_bool (by rw [HR.out]; simp [*]), by first | exact Hb2.out.trans (hB9.mono Hb2.out.size) | exact Hb2.out.trans (hB8.mono Hb2.out.size)⟩
        by_cases f1 : 1 ≤ fuel
        rotate_left
        · have e1 : decide (1 ≤ fuel) = false := by simpa using f1
          go_wp2_with (first | (go_at_call 10; (with_reducible refine (HF2.out _).mono ?_); rintro e w8 ⟨rfl, hb8⟩; have hB8 := H27.out.trans (hb8.mono H27.out.size); obtain ⟨t0, t1, t2, t3, t4, t5, tl⟩ := HX.out w8 hB8) | (go_at_call 10; (with_reducible refine (HF1.out _).mono ?_); rintro e w9 ⟨rfl, hb9⟩; have hB9 : Below w2.heap.size w2 w9 := (by first | exact hB8.trans (hb9.mono hB8.size) | exact H27.out.trans (hb9.mono H27.out.size)); obtain ⟨s0, s1, s2, s3, s4, s5, sl⟩ := HX.out w9 hB9))
          go_ret
          exact ⟨ret_bool (by rw [HR.out]; simp [*]), by first | exact Hb2.out.trans (hB9.mono Hb2.out.size) | exact Hb2.out.trans (hB8.mono Hb2.out.size)⟩
        have e1 : decide (1 ≤ fuel) = true := by simpa using f1
        by_cases f2 : fuel ≤ 2000
        · have e2 : decide (fuel ≤ 2000) = true := by simpa using f2
          go_wp2_with (first | (go_at_call 10; (with_reducible refine (HF2.out _).mono ?_); rintro e w8 ⟨rfl, hb8⟩; have hB8 := H27.out.trans (hb8.mono H27.out.size); obtain ⟨t0, t1, t2, t3, t4, t5, tl⟩ := HX.out w8 hB8) | (go_at_call 10; (with_reducible refine (HF1.out _).mono ?_); rintro e w9 ⟨rfl, hb9⟩; have hB9 : Below w2.heap.size w2 w9 := (by first | exact hB8.trans (hb9.mono hB8.size) | exact H27.out.trans (hb9.mono H27.out.size)); obtain ⟨s0, s1, s2, s3, s4, s5, sl⟩ := HX.out w9 hB9))
          go_ret
          exact ⟨ret_bool (by rw [HR.out]; simp [*]), by first | exact Hb2.out.trans (hB9.mono Hb2.out.size) | exact Hb2.out.trans (hB8.mono Hb2.out.size)⟩
        · have e2 : decide (fuel ≤ 2000) = false := by simpa using f2
          go_wp2_with (first | (go_at_call 10; (with_reducible refine (HF2.out _).mono ?_); rintro e w8 ⟨rfl, hb8⟩; have hB8 := H27.out.trans (hb8.mono H27.out.size); obtain ⟨t0, t1, t2, t3, t4, t5, tl⟩ := HX.out w8 hB8) | (go_at_call 10; (with_reducible refine (HF1.out _).mono ?_); rintro e w9 ⟨rfl, hb9⟩; have hB9 : Below w2.heap.size w2 w9 := (by first | exact hB8.trans (hb9.mono hB8.size) | exact H27.out.trans (hb9.mono H27.out.size)); obtain ⟨s0, s1, s2, s3, s4, s5, sl⟩ := HX.out w9 hB9))
          go_ret
          exact ⟨ret_bool (by rw [HR.out]; simp [*]), by first | exact Hb2.out.trans (hB9.mono Hb2.out.size) | exact Hb2.out.trans (hB8.mono Hb2.out.size)⟩
      · have gs := str_empty hes
        clear hes
        cases q1
        · skip
          go_wp2_with (first | (go_at_call 10; (with_reducible refine (HF2.out _).mono ?_); rintro e w8 ⟨rfl, hb8⟩; have hB8 := H27.out.trans (hb8.mono H27.out.size); obtain ⟨t0, t1, t2, t3, t4, t5, tl⟩ := HX.out w8 hB8) | (go_at_call 10; (with_reducible refine (HF1.out _).mono ?_); rintro e w9 ⟨rfl, hb9⟩; have hB9 : Below w2.heap.size w2 w9 := (by first | exact hB8.trans (hb9.mono hB8.size) | exact H27.out.trans (hb9.mono H27.out.size)); obtain ⟨s0, s1, s2, s3, s4, s5, sl⟩ := HX.out w9 hB9))
          go_ret
          exact ⟨ret_bool (by rw [HR.out]; simp [*]), by first | exact Hb2.out.trans (hB9.mono Hb2.out.size) | exact Hb2.out.trans (hB8.mono Hb2.out.size)⟩
        by_cases h8 : np ≤ 8
        rotate_left
        · have d8 : decide ((np : Int) ≤ 8) = false := by simp; omega
          go_wp2_with (first | (go_at_call 10; (with_reducible refine (HF2.out _).mono ?_); rintro e w8 ⟨rfl, hb8⟩; have hB8 := H27.out.trans (hb8.mono H27.out.size); obtain ⟨t0, t1, t2, t3, t4, t5, tl⟩ := HX.out w8 hB8) | (go_at_call 10; (with_reducible refine (HF1.out _).mono ?_); rintro e w9 ⟨rfl, hb9⟩; have hB9 : Below w2.heap.size w2 w9 := (by first | exact hB8.trans (hb9.mono hB8.size) | exact H27.out.trans (hb9.mono H27.out.size)); obtain ⟨s0, s1, s2, s3, s4, s5, sl⟩ := HX.out w9 hB9))
          go_ret
          exact ⟨ret_bool (by rw [HR.out]; simp [*]), by first | exact Hb2.out.trans (hB9.mono Hb2.out.size) | exact Hb2.out.trans (hB8.mono Hb2.out.size)⟩
        have d8 : decide ((np : Int) ≤ 8) = true := by simp; omega
        cases av
        · skip
          go_wp2_with (first | (go_at_call 10; (with_reducible refine (HF2.out _).mono ?_); rintro e w8 ⟨rfl, hb8⟩; have hB8 := H27.out.trans (hb8.mono H27.out.size); obtain ⟨t0, t1, t2, t3, t4, t5, tl⟩ := HX.out w8 hB8) | (go_at_call 10; (with_reducible refine (HF1.out _).mono ?_); rintro e w9 ⟨rfl, hb9⟩; have hB9 : Below w2.heap.size w2 w9 := (by first | exact hB8.trans (hb9.mono hB8.size) | exact H27.out.trans (hb9.mono H27.out.size)); obtain ⟨s0, s1, s2, s3, s4, s5, sl⟩ := HX.out w9 hB9))
          go_ret
          exact ⟨ret_bool (by rw [HR.out]; simp [*]), by first | exact Hb2.out.trans (hB9.mono Hb2.out.size) | exact Hb2.out.trans (hB8.mono Hb2.out.size)⟩
        by_cases f1 : 1 ≤ fuel
        rotate_left
        · have e1 : decide (1 ≤ fuel) = false := by simpa using f1
          go_wp2_with (first | (go_at_call 10; (with_reducible refine (HF2.out _).mono ?_); rintro e w8 ⟨rfl, hb8⟩; have hB8 := H27.out.trans (hb8.mono H27.out.size); obtain ⟨t0, t1, t2, t3, t4, t5, tl⟩ := HX.out w8 hB8) | (go_at_call 10; (with_reducible refine (HF1.out _).mono ?_); rintro e w9 ⟨rfl, hb9⟩; have hB9 : Below w2.heap.size w2 w9 := (by first | exact hB8.trans (hb9.mono hB8.size) | exact H27.out.trans (hb9.mono H27.out.size)); obtain ⟨s0, s1, s2, s3, s4, s5, sl⟩ := HX.out w9 hB9))
          go_ret
          exact ⟨ret_bool (by rw [HR.out]; simp [*]), by first | exact Hb2.out.trans (hB9.mono Hb2.out.size) | exact Hb2.out.trans (hB8.mono Hb2.out.size)⟩
        have e1 : decide (1 ≤ fuel) = true := by simpa using f1
        by_cases f2 : fuel ≤ 2000
        · have e2 : decide (fuel ≤ 2000) = true := by simpa using f2
          go_wp2_with (first | (go_at_call 10; (with_reducible refine (HF2.out _).mono ?_); rintro e w8 ⟨rfl, hb8⟩; have hB8 := H27.out.trans (hb8.mono H27.out.size); obtain ⟨t0, t1, t2, t3, t4, t5, tl⟩ := HX.out w8 hB8) | (go_at_call 10; (with_reducible refine (HF1.out _).mono ?_); rintro e w9 ⟨rfl, hb9⟩; have hB9 : Below w2.heap.size w2 w9 := (by first | exact hB8.trans (hb9.mono hB8.size) | exact H27.out.trans (hb9.mono H27.out.size)); obtain ⟨s0, s1, s2, s3, s4, s5, sl⟩ := HX.out w9 hB9))
          go_ret
          exact ⟨ret_bool (by rw [HR.out]; simp [*]), by first | exact Hb2.out.trans (hB9.mono Hb2.out.size) | exact Hb2.out.trans (hB8.mono Hb2.out.size)⟩
        · have e2 : decide (fuel ≤ 2000) = false := by simpa using f2
          go_wp2_with (first | (go_at_call 10; (with_reducible refine (HF2.out _).mono ?_); rintro e w8 ⟨rfl, hb8⟩; have hB8 := H27.out.trans (hb8.mono H27.out.size); obtain ⟨t0, t1, t2, t3, t4, t5, tl⟩ := HX.out w8 hB8) | (go_at_call 10; (with_reducible refine (HF1.out _).mono ?_); rintro e w9 ⟨rfl, hb9⟩; have hB9 : Below w2.heap.size w2 w9 := (by first | exact hB8.trans (hb9.mono hB8.size) | exact H27.out.trans (hb9.mono H27.out.size)); obtain ⟨s0, s1, s2, s3, s4, s5, sl⟩ := HX.out w9 hB9))
          go_ret
          exact ⟨ret_bool (by rw [HR.out]; simp [*]), by first | exact Hb2.out.trans (hB9.mono Hb2.out.size) | exact Hb2.out.trans (hB8.mono Hb2.out.size)⟩
end Go.Proofs.Ytgihhkfppnhdpaa

namespace Go.Proofs.Ytgihhkfppnhdpaa
open Go.RowKit Go.Afx

def SomeB (w : World) (e : Ending) (w' : World) : Prop := ∃ b : Bool, e = .returned (.bool b) ∧ w = w'
set_option maxRecDepth 100000 in
set_option maxHeartbeats 2000000 in
theorem great_any (F : Nat → Prop) (A A' : Option Addr) (n c n' c' : Nat) (xs : List Lf) (ys : List Kn) (w : World) (h1 : LsAt F w 6 (LfAt F w) A n c xs) (h2 : LsAt F w 8 (KnAt F w) A' n' c' ys) :
    Calls Try.prog 25 #[.slice A n c, .slice A' n' c'] w (SomeB w) := by
  have hn := h1.n_le
  have hn' := h2.n_le
  by_cases hbig : 50 < n ∨ 50 < n'
  · clear h1 h2
    rcases hbig with hbig | hbig
    all_goals
      go_enter Try.func25, Try.ntmps25
      go_wp2
      all_goals
        first
        | (go_ret; exact ⟨_, rfl, rfl⟩)
        | skip
  · have hn50 : n ≤ 50 := by omega
    have hn50' : n' ≤ 50 := by omega
    have hi1 : ¬ (50 : Int) < (n : Int) := by omega
    have hi2 : ¬ (50 : Int) < (n' : Int) := by omega
    clear hbig
    go_enter Try.func25, Try.ntmps25
    go_wp2
    go_loop [5] (fun i => ∃ k : Nat, k ≤ n ∧ i = .int .i64 k) (fun i => n - (intOf i).toNat)
    case atStart => exact ⟨0, Nat.zero_le _, rfl⟩
    case round =>
      obtain ⟨k, hk, rfl⟩ := hrel
      by_cases hlt : k < n
      · obtain ⟨b, o, r, x, rfl, hbl, _, hx, hrl, hp, hc⟩ := h1.get hlt
        obtain ⟨o1, o2, o3, o4, o5, A5, m5, c5, rfl, _⟩ := hp
        have hc2 := hc 2 _ rfl; have hc3 := hc 3 _ rfl; have hc4 := hc 4 _ rfl
        clear hc hx
        unfold okS at o3 o4 o5
        go_wp2
        all_goals
          first
          | (go_ret; exact ⟨_, rfl, rfl⟩)
          | (go_round
             case rel => exact ⟨k + 1, by omega, by go_num⟩
             case measure => simp [intOf]; omega)
      · go_wp2
        go_loop [6] (fun i => ∃ k : Nat, k ≤ n' ∧ i = .int .i64 k) (fun i => n' - (intOf i).toNat)
        case atStart => exact ⟨0, Nat.zero_le _, rfl⟩
        case round =>
          obtain ⟨k2, hk2, rfl⟩ := hrel
          by_cases hlt2 : k2 < n'
          · obtain ⟨b, o, r, x, rfl, hbl, _, hx, hrl, hp, hc⟩ := h2.get hlt2
            obtain ⟨o1, o2, o3, o4, Ac, nc, cc, Ax, nx, cx, Ab, nb, cb, Al, nl, cl, rfl, hcol, _⟩ := hp
            have hc1 := hc 1 _ rfl; have hc2 := hc 2 _ rfl; have hc4 := hc 4 _ rfl
            have hnc := hcol.n_le
            clear hc hx
            unfold okS at o3 o4
            by_cases hq : 12 < nc
            · have hq' : (12 : Int) < (nc : Int) := by omega
              go_wp2
              all_goals
                first
                | (go_ret; exact ⟨_, rfl, rfl⟩)
                | skip
            · have hq' : ¬ (12 : Int) < (nc : Int) := by omega
              have hnc12 : nc ≤ 12 := by omega
              go_wp2
              all_goals
                first
                | (go_ret; exact ⟨_, rfl, rfl⟩)
                | (go_loop [7] (fun i => ∃ k : Nat, k ≤ nc ∧ i = .int .i64 k) (fun i => nc - (intOf i).toNat)
                   case atStart => exact ⟨0, Nat.zero_le _, rfl⟩
                   case round =>
                     obtain ⟨k3, hk3, rfl⟩ := hrel
                     by_cases hlt3 : k3 < nc
                     · obtain ⟨b3, o3, r3, x3, rfl, hbl3, _, hx3, hrl3, hp3, hcc3⟩ := hcol.get hlt3
                       obtain ⟨rfl, ok3⟩ := hp3
                       have hcc := hcc3 0 _ rfl
                       rw [Nat.mul_one, Nat.add_zero] at hcc
                       unfold okS at ok3
                       go_wp2
                       all_goals
                         first
                         | (go_ret; exact ⟨_, rfl, rfl⟩)
                         | (go_round
                            case rel => exact ⟨k3 + 1, by omega, by go_num⟩
                            case measure => simp [intOf]; omega)
                     · go_wp2
                       go_round
                       case rel => exact ⟨k2 + 1, by omega, by go_num⟩
                       case measure => simp [intOf]; omega)
          · go_wp2
            go_ret
            exact ⟨_, rfl, rfl⟩
end Go.Proofs.Ytgihhkfppnhdpaa
