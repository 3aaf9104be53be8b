/- Lock, part G: the statement's own union. -/
import Derived.Test.YtinpihplkikldaaLockF
namespace Go.Proofs.Ytinpihplkikldaa
open Go.RowKit Go.Afx

set_option maxRecDepth 100000 in
set_option maxHeartbeats 8000000 in
theorem union_ref (A : Option Addr) (n c : Nat) (l : List Wt) (hbig : n ≤ 1000) (w : World) (hl : WAt w A n c l) :
    Calls Try.prog 15 #[.slice A n c] w (OwnsW w (unionW l)) := by
  have ll : l.length = n := by have := hl.len; simpa using this
  have Ll := Lib.hid ll; clear ll
  go_enter Try.func15, Try.ntmps15
  go_wp2
  go_loopw [3, 4] (fun v i wr => ∃ (k : Nat) (out : List Wt) (A2 : Option Addr) (c2 : Nat), k ≤ n ∧ i = .int .i64 k ∧ v = .slice A2 out.length c2 ∧ out = unionW (l.take k) ∧ out.length ≤ k ∧ wr.ownsRow w.heap.size 31 2 (.slice A2 out.length c2) out.length (flatW out) ∧ Below w.heap.size w wr) (fun _ i _ => n - (intOf i).toNat)
  case atStart => exact ⟨0, [], none, 0, Nat.zero_le _, rfl, rfl, rfl, Nat.le_refl _, World.ownsRow_nil _ _ _ _, Below.refl _ _⟩
  case round =>
    obtain ⟨k, out, A2, c2, hk, rfl, rfl, hout, hlen, hown, hb⟩ := hrel
    have Hout := Lib.hid hout; clear hout
    by_cases hlt : k < n
    · obtain ⟨b, o, a, x, rfl, hbl, hpk, hc0, hc1⟩ := (hl.below hb).get hlt
      have Hpk := Lib.hid hpk; clear hpk
      have Hstep : Hid (unionW (l.take (k + 1)) = insW out (a, x)) := Lib.hid (by rw [take_succ_of Hpk.out, unionW_snoc, Hout.out])
      generalize hm : out.length = m at *
      have Hm := Lib.hid hm; clear hm
      go_wp2
      go_loopw [5] (fun i wr' => ∃ (j : Nat) (q : Nat), j ≤ m ∧ i = .int .i64 j ∧ (∀ p ∈ out.take j, ltW p (a, x) = true) ∧ wr' = wr.drewN q) (fun i _ => m - (intOf i).toNat)
      case atStart => exact ⟨0, 0, Nat.zero_le _, rfl, by simp, rfl⟩
      case round =>
        obtain ⟨j, q, hj, rfl, hpre, rfl⟩ := hrel
        have Hpre := Lib.hid hpre; clear hpre
        have hown0 := hown
        have hb0 := hb
        have hown := own_drewN hown q
        have hb := below_drewN hb q
        have hmk : m ≤ k := hlen
        rcases Nat.lt_or_ge j m with hjm | hjm
        · obtain ⟨P, R, qn, qb, Ho, HP⟩ : ∃ P R qn qb, Hid (out = P ++ (qn, qb) :: R) ∧ Hid (P = out.take j) := by
            have hj' : j < out.length := by have := Hm.out; omega
            exact ⟨out.take j, out.drop (j + 1), out[j].1, out[j].2, Lib.hid (by rw [← List.drop_eq_getElem_cons hj', List.take_append_drop]), Lib.hid rfl⟩
          have HPl : Hid (j = P.length) := Lib.hid (by rw [HP.out, List.length_take]; have := Hm.out; omega)
          obtain ⟨g, cap, hA, hbg, hgl⟩ := hown.form (by omega)
          simp only [Value.slice.injEq] at hA
          obtain ⟨rfl, _, rfl⟩ := hA
          have hq := flatW_at P R qn qb j HPl.out
          rw [← Ho.out] at hq
          have hd0 : wr.cell? ⟨g, j * 2, none⟩ = some (.string qn) := (hown.cellAt (j * 2) (by omega)).trans hq.1
          have hd1 : wr.cell? ⟨g, j * 2 + 1, none⟩ = some (.bool qb) := (hown.cellAt (j * 2 + 1) (by omega)).trans hq.2
          clear hq
          have hfz : ∀ i, wr.frozen? ⟨g, i, none⟩ = false := hown.frozenAt
          by_cases hlq : Op.bytesLess qn.toList a.toList = true
          · go_wp2
            go_quiet (fail)
            go_wp2
            go_roundw
            case rel =>
              refine ⟨j + 1, _, by omega, by go_num, ?_, rfl⟩
              have e : out.take (j + 1) = P ++ [(qn, qb)] := by
                rw [Ho.out, HPl.out]
                have e2 : P ++ (qn, qb) :: R = (P ++ [(qn, qb)]) ++ R := by simp
                rw [e2]
                have e3 : P.length + 1 = (P ++ [(qn, qb)]).length := by simp
                rw [e3, List.take_left]
              rw [e]
              intro p hp
              rcases List.mem_append.1 hp with hp | hp
              · rw [HP.out] at hp; exact Hpre.out p hp
              · rw [List.mem_singleton.1 hp]; exact hlq
            case measure => simp [intOf]; omega
          · have hlq : Op.bytesLess qn.toList a.toList = false := by simpa using hlq
            by_cases hsame : (qn.toList == a.toList) = true
            · have Hres : Hid (unionW (l.take (k + 1)) = P ++ (qn, qb || x) :: R) := Lib.hid (by
                rw [Hstep.out, Ho.out, insW_pre _ _ _ (by rw [HP.out]; exact Hpre.out), insW_same _ _ _ _ _ hsame])
              have Hl2 : Hid (∀ v : Bool, (P ++ (qn, v) :: R).length = m) := Lib.hid (fun v => by have := Hm.out; rw [Ho.out] at this; simpa using this)
              cases qb
              · go_wp2
                go_quiet (fail)
                go_wp2
                go_quiet (fail)
                go_wp2
                go_roundw
                case rel =>
                  have h5 := own_set1 (x := x) (Ho.out ▸ hown0) HPl.out
                  exact ⟨k + 1, P ++ (qn, x) :: R, some ⟨g, 0, none⟩, c2, by omega, by go_num, by rw [Hl2.out], Hres.out.symm, by rw [Hl2.out]; omega, by rw [Hl2.out]; exact own_drewN h5 _, below_drewN (hb0.setCell (p := ⟨g, j * 2 + 1, none⟩) hbg _) _⟩
                case measure => simp [intOf]; omega
              · go_wp2
                go_quiet (fail)
                go_wp2
                go_quiet (fail)
                go_wp2
                go_roundw
                case rel =>
                  have h5 := own_set1 (x := true) (Ho.out ▸ hown0) HPl.out
                  exact ⟨k + 1, P ++ (qn, true) :: R, some ⟨g, 0, none⟩, c2, by omega, by go_num, by rw [Hl2.out], Hres.out.symm, by rw [Hl2.out]; omega, by rw [Hl2.out]; exact own_drewN h5 _, below_drewN (hb0.setCell (p := ⟨g, j * 2 + 1, none⟩) hbg _) _⟩
                case measure => simp [intOf]; omega
            · have hsame : (qn.toList == a.toList) = false := by simpa using hsame
              have Hres : Hid (unionW (l.take (k + 1)) = P ++ (a, x) :: (qn, qb) :: R) := Lib.hid (by
                rw [Hstep.out, Ho.out, insW_pre _ _ _ (by rw [HP.out]; exact Hpre.out), insW_new (qn, qb) R (a, x) hlq hsame])
              go_wp2
              go_quiet (fail)
              go_wp2
              go_quiet (fail)
              have hPR : Hid (P.length = j ∧ (P ++ ((qn, qb) :: R)).length = m) := Lib.hid ⟨HPl.out.symm, by rw [← Ho.out]; exact Hm.out⟩
              go_wp2_with (at_builtin; refine wpList_app (base := w.heap.size) (xs := out.map wrow) (news := [((⟨#[]⟩ : ByteArray), false)].map wrow) rfl rfl tyWant rfl ?h1 rfl ?h2 wrow_len wrow_one ?h3 ?h4 ?h5 ?h6; (case h1 => exact (own_drewN hown0 _).alloc _); (case h2 => exact one_new _ _ _ (by simp)); (case h3 => (unfold maxLen; omega)); (case h4 => omega); (case h5 => (have := hb0.size; simp; omega)); intro A3 c3 w3 hown4 hbut4 hf4)
              have hb4 : Below w.heap.size w w3 := ((below_drewN hb0 _).alloc (by have := hb0.size; simpa using this) _).trans (hbut4.below' (by have := hb0.size; simp; omega) (fun i hi => by simp at hi; omega))
              have hown5 : w3.ownsRow w.heap.size 31 2 (.slice A3 (m + 1) c3) (m + 1) (flatW (P ++ ((qn, qb) :: R) ++ ((⟨#[]⟩ : ByteArray), false) :: [])) := by
                rw [← List.map_append, Ho.out] at hown4; exact hown4
              clear hown4
              go_loopw [6] (fun i wr4 => ∃ (t : Nat) (R1 R2 : List Wt) (zb : ByteArray) (zx : Bool), j ≤ t ∧ t ≤ m ∧ i = .int .i64 t ∧ t = j + R1.length ∧ ((qn, qb) :: R) = R1 ++ R2 ∧ wr4.ownsRow w.heap.size 31 2 (.slice A3 (m + 1) c3) (m + 1) (flatW (P ++ R1 ++ (zb, zx) :: R2)) ∧ Below w.heap.size w wr4) (fun i _ => (intOf i).toNat)
              case atStart => exact ⟨m, ((qn, qb) :: R), [], _, _, by omega, Nat.le_refl _, by go_num, by have := hPR.out; rw [List.length_append] at this; omega, by simp, hown5, hb4⟩
              case round =>
                obtain ⟨t, R1, R2, zb, zx, htj, htm, rfl, ht, hR, hown6, hb6⟩ := hrel
                have Ht := Lib.hid ht; clear ht
                have HR := Lib.hid hR; clear hR
                obtain ⟨g, cap, hA, hbg, hgl⟩ := hown6.form (by omega)
                simp only [Value.slice.injEq] at hA
                obtain ⟨rfl, _, rfl⟩ := hA
                have hfz := hown6.frozenAt
                by_cases hjt : j < t
                · obtain ⟨R1', sa, sx, HR1⟩ : ∃ R1' sa sx, Hid (R1 = R1' ++ [(sa, sx)]) := by
                    have hne : R1 ≠ [] := by rintro rfl; have := Ht.out; simp at this; omega
                    exact ⟨R1.dropLast, (R1.getLast hne).1, (R1.getLast hne).2, Lib.hid (List.dropLast_concat_getLast hne).symm⟩
                  have Hl1 : Hid (t = (P ++ R1).length ∧ t - 1 = (P ++ R1').length) := Lib.hid (by
                    have h1 := Ht.out; have h2 := hPR.out.1; have h3 := HR1.out
                    rw [h3, List.length_append] at h1
                    rw [h3]
                    simp only [List.length_append, List.length_cons, List.length_nil] at h1 ⊢
                    omega)
                  have Hf : Hid (P ++ R1 ++ (zb, zx) :: R2 = (P ++ R1') ++ (sa, sx) :: (zb, zx) :: R2) := Lib.hid (by rw [HR1.out]; simp)
                  have hx := flatW_at (P ++ R1) R2 zb zx t Hl1.out.1
                  have hy := flatW_at (P ++ R1') ((zb, zx) :: R2) sa sx (t - 1) Hl1.out.2
                  rw [← Hf.out] at hy
                  have he0 : wr.cell? ⟨g, t * 2, none⟩ = some (.string zb) := (hown6.cellAt (t * 2) (by omega)).trans hx.1
                  have he1 : wr.cell? ⟨g, t * 2 + 1, none⟩ = some (.bool zx) := (hown6.cellAt (t * 2 + 1) (by omega)).trans hx.2
                  have hd0 : wr.cell? ⟨g, (t - 1) * 2, none⟩ = some (.string sa) := (hown6.cellAt ((t - 1) * 2) (by omega)).trans hy.1
                  have hd1 : wr.cell? ⟨g, (t - 1) * 2 + 1, none⟩ = some (.bool sx) := (hown6.cellAt ((t - 1) * 2 + 1) (by omega)).trans hy.2
                  clear hx hy
                  have hw1 : IntKind.i64.wrap ((t : Int) - 1) = (t : Int) - 1 := IntWalk.i64_in _ (by omega)
                  have hw2 : 0 ≤ (t : Int) - 1 := by omega
                  have hw3 : ((t : Int) - 1).toNat = t - 1 := by omega
                  have hw6 : 1 ≤ (t : Int) := by omega
                  have hw8 : 1 ≤ t := by omega
                  have hw9 : (t : Int) ≤ (m : Int) := by omega
                  go_wp2
                  go_roundw
                  case rel =>
                    refine ⟨t - 1, R1', (sa, sx) :: R2, sa, sx, by omega, by omega, by go_num, ?_, by rw [HR.out, HR1.out]; simp, ?_, (hb6.setCell hbg _).setCell hbg _⟩
                    · have h1 := Ht.out; rw [HR1.out, List.length_append] at h1; simp at h1; omega
                    · have h5 := own_set2 (a := sa) (x := sx) hown6 Hl1.out.1
                      have e : P ++ R1 ++ (sa, sx) :: R2 = P ++ R1' ++ (sa, sx) :: (sa, sx) :: R2 := by rw [HR1.out]; simp
                      rw [e] at h5
                      exact h5
                  case measure => simp [intOf]; omega
                · obtain rfl : t = j := by omega
                  have H1 : Hid (R1 = []) := Lib.hid (List.eq_nil_of_length_eq_zero (by have := Ht.out; omega))
                  obtain ⟨b2, o2, a2, x2, hA2, hbl2, hpk2, hg0, hg1⟩ := (hl.below hb6).get hlt
                  simp only [Option.some.injEq, Addr.mk.injEq, and_true] at hA2
                  obtain ⟨rfl, rfl⟩ := hA2
                  have hpe := Hpk.out.symm.trans hpk2
                  simp only [Option.some.injEq, Prod.mk.injEq] at hpe
                  obtain ⟨rfl, rfl⟩ := hpe
                  clear hpk2
                  have hx := flatW_at (P ++ R1) R2 zb zx t (by rw [H1.out, List.append_nil]; exact hPR.out.1.symm)
                  have he0 : wr.cell? ⟨g, t * 2, none⟩ = some (.string zb) := (hown6.cellAt (t * 2) (by omega)).trans hx.1
                  have he1 : wr.cell? ⟨g, t * 2 + 1, none⟩ = some (.bool zx) := (hown6.cellAt (t * 2 + 1) (by omega)).trans hx.2
                  clear hx
                  go_wp2
                  go_roundw
                  case rel =>
                    have hml : (P ++ (a, x) :: ((qn, qb) :: R)).length = m + 1 := by have h := hPR.out.2; rw [List.length_append] at h ⊢; rw [List.length_cons]; omega
                    refine ⟨k + 1, P ++ (a, x) :: ((qn, qb) :: R), some ⟨g, 0, none⟩, c3, by omega, by go_num, by rw [hml], Hres.out.symm, by rw [hml]; omega, ?_, (hb6.setCell hbg _).setCell hbg _⟩
                    rw [hml]
                    have h5 := own_set2 (j := t) (a := a) (x := x) hown6 (by rw [H1.out, List.append_nil]; exact hPR.out.1.symm)
                    have e : P ++ R1 ++ (a, x) :: R2 = P ++ (a, x) :: ((qn, qb) :: R) := by rw [HR.out, H1.out]; simp
                    rw [e] at h5
                    exact h5
                  case measure => simp [intOf]; omega
        · obtain rfl : j = m := by omega
          have hjf : decide ((j : Int) < (j : Int)) = false := by simp
          obtain ⟨P, HP⟩ : ∃ P, Hid (P = out) := ⟨out, Lib.hid rfl⟩
          have Ho : Hid (out = P ++ []) := Lib.hid (by rw [HP.out, List.append_nil])
          have HPl : Hid (j = P.length) := Lib.hid (by rw [HP.out]; exact Hm.out.symm)
          have Hres : Hid (unionW (l.take (k + 1)) = P ++ [(a, x)]) := Lib.hid (by
            rw [Hstep.out, Ho.out, insW_pre _ _ _ (by intro p hp; refine Hpre.out p ?_; rw [HP.out] at hp; rwa [List.take_of_length_le (Nat.le_of_eq Hm.out)]), insW_end])
          go_wp2
          go_quiet (fail)
          go_wp2
          go_quiet (fail)
          have hPR : Hid (P.length = j ∧ (P ++ ([] : List Wt)).length = j) := Lib.hid ⟨HPl.out.symm, by rw [← Ho.out]; exact Hm.out⟩
          go_wp2_with (at_builtin; refine wpList_app (base := w.heap.size) (xs := out.map wrow) (news := [((⟨#[]⟩ : ByteArray), false)].map wrow) rfl rfl tyWant rfl ?g1 rfl ?g2 wrow_len wrow_one ?g3 ?g4 ?g5 ?g6; (case g1 => exact (own_drewN hown0 _).alloc _); (case g2 => exact one_new _ _ _ (by simp)); (case g3 => (unfold maxLen; omega)); (case g4 => omega); (case g5 => (have := hb0.size; simp; omega)); intro A3 c3 w3 hown4 hbut4 hf4)
          have hb4 : Below w.heap.size w w3 := ((below_drewN hb0 _).alloc (by have := hb0.size; simpa using this) _).trans (hbut4.below' (by have := hb0.size; simp; omega) (fun i hi => by cases A2 with | none => cases hi | some a2 => (have h := hown0.lt a2.block rfl; simp at hi; omega)))
          have hown5 : w3.ownsRow w.heap.size 31 2 (.slice A3 (j + 1) c3) (j + 1) (flatW (P ++ ([] : List Wt) ++ ((⟨#[]⟩ : ByteArray), false) :: [])) := by
            rw [← List.map_append, Ho.out] at hown4; exact hown4
          clear hown4
          go_loopw [6] (fun i wr4 => ∃ (t : Nat) (R1 R2 : List Wt) (zb : ByteArray) (zx : Bool), j ≤ t ∧ t ≤ j ∧ i = .int .i64 t ∧ t = j + R1.length ∧ ([] : List Wt) = R1 ++ R2 ∧ wr4.ownsRow w.heap.size 31 2 (.slice A3 (j + 1) c3) (j + 1) (flatW (P ++ R1 ++ (zb, zx) :: R2)) ∧ Below w.heap.size w wr4) (fun i _ => (intOf i).toNat)
          case atStart => exact ⟨j, ([] : List Wt), [], _, _, by omega, Nat.le_refl _, by go_num, by have := hPR.out; rw [List.length_append] at this; omega, by simp, hown5, hb4⟩
          case round =>
            obtain ⟨t, R1, R2, zb, zx, htj, htm, rfl, ht, hR, hown6, hb6⟩ := hrel
            have Ht := Lib.hid ht; clear ht
            have HR := Lib.hid hR; clear hR
            obtain ⟨g, cap, hA, hbg, hgl⟩ := hown6.form (by omega)
            simp only [Value.slice.injEq] at hA
            obtain ⟨rfl, _, rfl⟩ := hA
            have hfz := hown6.frozenAt
            by_cases hjt : j < t
            · exact absurd hjt (by omega)
            · obtain rfl : t = j := by omega
              have H1 : Hid (R1 = []) := Lib.hid (List.eq_nil_of_length_eq_zero (by have := Ht.out; omega))
              obtain ⟨b2, o2, a2, x2, hA2, hbl2, hpk2, hg0, hg1⟩ := (hl.below hb6).get hlt
              simp only [Option.some.injEq, Addr.mk.injEq, and_true] at hA2
              obtain ⟨rfl, rfl⟩ := hA2
              have hpe := Hpk.out.symm.trans hpk2
              simp only [Option.some.injEq, Prod.mk.injEq] at hpe
              obtain ⟨rfl, rfl⟩ := hpe
              clear hpk2
              have hx := flatW_at (P ++ R1) R2 zb zx t (by rw [H1.out, List.append_nil]; exact hPR.out.1.symm)
              have he0 : wr.cell? ⟨g, t * 2, none⟩ = some (.string zb) := (hown6.cellAt (t * 2) (by omega)).trans hx.1
              have he1 : wr.cell? ⟨g, t * 2 + 1, none⟩ = some (.bool zx) := (hown6.cellAt (t * 2 + 1) (by omega)).trans hx.2
              clear hx
              go_wp2
              go_roundw
              case rel =>
                have hml : (P ++ (a, x) :: ([] : List Wt)).length = t + 1 := by have h := hPR.out.2; rw [List.length_append] at h ⊢; rw [List.length_cons]; omega
                refine ⟨k + 1, P ++ (a, x) :: ([] : List Wt), some ⟨g, 0, none⟩, c3, by omega, by go_num, by rw [hml], Hres.out.symm, by rw [hml]; omega, ?_, (hb6.setCell hbg _).setCell hbg _⟩
                rw [hml]
                have h5 := own_set2 (j := t) (a := a) (x := x) hown6 (by rw [H1.out, List.append_nil]; exact hPR.out.1.symm)
                have e : P ++ R1 ++ (a, x) :: R2 = P ++ (a, x) :: ([] : List Wt) := by rw [HR.out, H1.out]; simp
                rw [e] at h5
                exact h5
              case measure => simp [intOf]; omega
    · go_wp2
      go_ret
      obtain rfl : k = n := by omega
      have hfin : out = unionW l := by
        rw [Hout.out, List.take_of_length_le (by rw [Ll.out]; omega)]
      subst hfin
      exact ⟨A2, c2, rfl, hown, hb⟩
end Go.Proofs.Ytinpihplkikldaa
