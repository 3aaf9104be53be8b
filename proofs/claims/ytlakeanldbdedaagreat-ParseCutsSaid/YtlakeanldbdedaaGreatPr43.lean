/- Parts of this proof, one behind the other: LexD, LexE. -/
import Derived.Test.YtlakeanldbdedaaGreatPr42
namespace Go.Proofs.YtlakeanldbdedaaGreat
open Go.RowKit Go.Afx

theorem pre_list (s : ByteArray) (k : Nat) : (s.extract 0 k).data.toList = s.data.toList.take k := by
  simp only [ByteArray.data_extract, Array.toList_extract, List.extract_eq_take_drop]
  simp
/-- as far as the bytes are a word's -/
theorem tw_at {l : List UInt8} {k : Nat} (hk : k ≤ l.length) (h : ∀ y ∈ l.take k, lexB y = true) (hs : ∀ y, l[k]? = some y → lexB y = false) : l.takeWhile lexB = l.take k := by
  induction l generalizing k with
  | nil => simp
  | cons c r ih =>
    cases k with
    | zero =>
      have := hs c rfl
      rw [List.takeWhile_cons, if_neg (by rw [this]; decide)]
      rfl
    | succ k =>
      rw [List.takeWhile_cons, if_pos (h c (by simp)), List.take_succ_cons]
      rw [ih (k := k) (by simpa using hk) (fun y hy => h y (by simp [hy])) (fun y hy => hs y (by simpa using hy))]
theorem dig_lex {c : UInt8} (h : dgB c = true) : lexB c = true := by
  simp only [dgB, Bool.and_eq_true, decide_eq_true_eq] at h
  simp [lexB, h]
/-- a number's word -/
theorem num_said {t : List UInt8} {v e : Int} (hd : t.head?.any dgB = true) (h : NumSaid t v e) (s : List UInt8) (ht : s.takeWhile lexB = t) (b : Bool) (hb : b = decide (e = 0)) :
    NextSaid (plainX s) (.returned (.tuple #[.agg #[.int .i64 1, .string (str t), .int .i64 v, .int .i64 0], .int .i64 t.length, .bool b])) := by
  unfold plainX
  rw [ht, if_pos hd]
  unfold NumSaid at h
  cases hp : parseN t with
  | none =>
    rw [hp] at h
    rw [hb, decide_eq_false (by omega)]
    exact ⟨_, _, _, _, rfl⟩
  | some n =>
    rw [hp] at h
    obtain ⟨rfl, rfl⟩ := h
    rw [hb]
    rfl
theorem name_said {t : List UInt8} (hd : t.head?.any dgB = false) (s : List UInt8) (ht : s.takeWhile lexB = t) :
    NextSaid (plainX s) (.returned (.tuple #[.agg #[.int .i64 3, .string (str t), .int .i64 0, .int .i64 0], .int .i64 t.length, .bool (namedB (str t))])) := by
  unfold plainX
  rw [ht, if_neg (by rw [hd]; decide)]
  cases namedB (str t) with
  | true => rfl
  | false => exact ⟨_, _, _, _, rfl⟩
set_option maxRecDepth 100000 in
set_option maxHeartbeats 4000000 in
theorem plain_any (s : ByteArray) (w : World) (h0 : 0 < s.size) (hc : lexB s[0] = true) (hs : s.size ≤ 1000000000) :
    Calls Tryz.prog 65 #[.string s] w fun x w' => NextSaid (plainX s.data.toList) x ∧ Below w.heap.size w w' := by
  obtain ⟨w1, Hw1⟩ : ∃ w1, Hid (w1 = w.alloc (.cells #[.int .i64 0, .string ⟨#[]⟩, .int .i64 0, .int .i64 0] 36)) := ⟨_, rfl⟩
  have hb1 : Below w.heap.size w w1 := by rw [Hw1.out]; exact (Below.refl _ _).alloc (Nat.le_refl _) _
  have hk1 : IsBlk w1 w.heap.size 36 #[.int .i64 0, .string ⟨#[]⟩, .int .i64 0, .int .i64 0] := by rw [Hw1.out]; exact IsBlk.laid _ _ _
  have hz1 : w1.heap.size = w.heap.size + 1 := by rw [Hw1.out]; simp
  have Hb1 := Lib.hid hb1
  have Hk1 := Lib.hid hk1
  have Hz1 := Lib.hid hz1
  have Hc := Lib.hid hc
  have hst := drop_at s 0 h0
  rw [List.drop_zero] at hst
  have Hst := Lib.hid hst
  clear hb1 hk1 hz1 hc hst
  go_enter Tryz.func65, Tryz.ntmps65
  go_upto_region 1 with (fail)
  rw [← Hw1.out]
  go_wp2
  go_loop [5] (fun i => ∃ k : Nat, k ≤ s.size ∧ i = .int .i64 k ∧ Hid (∀ y ∈ s.data.toList.take k, lexB y = true)) (fun i => s.size - (intOf i).toNat)
  case atStart => exact ⟨0, Nat.zero_le _, rfl, Lib.hid (by simp)⟩
  case round =>
    obtain ⟨k, hk, rfl, HA⟩ := hrel
    have hend : (k < s.size → ∀ h : k < s.size, lexB s[k] = false) → 0 < k ∧ s.data.toList.takeWhile lexB = s.data.toList.take k := fun h => by
      have h2 : ∀ y, s.data.toList[k]? = some y → lexB y = false := fun y hy => by
        have hlt : k < s.size := by have := (List.getElem?_eq_some_iff.1 hy).1; rwa [szl] at this
        have := h hlt hlt
        rw [List.getElem?_eq_getElem (by rw [szl]; exact hlt)] at hy
        rw [← Option.some.inj hy]
        exact this
      refine ⟨?_, tw_at (by rw [szl]; exact hk) HA.out h2⟩
      rcases Nat.eq_zero_or_pos k with e | e
      · subst e
        have := h h0 h0
        rw [Hc.out] at this
        cases this
      · exact e
    rcases Nat.lt_or_ge k s.size with hlt | hge
    · have hp := lexPart_any s[k] w1
      obtain ⟨q, hq⟩ : ∃ q, lexB s[k] = q := ⟨_, rfl⟩
      rw [hq] at hp
      have Hp := Lib.hid hp
      cases q with
      | true =>
        have hnx : ∀ y ∈ s.data.toList.take (k + 1), lexB y = true := by
          rw [take_one (List.getElem?_eq_getElem (by rw [szl]; exact hlt))]
          intro y hy
          rcases List.mem_append.1 hy with hy | hy
          · exact HA.out y hy
          · simp only [List.mem_singleton] at hy; subst hy; exact hq
        have Hnx := Lib.hid hnx
        clear hp hq hend hnx
        go_wp2_with (fail)
        refine Hp.out.mono ?_
        rintro e w' ⟨rfl, rfl⟩
        go_wp2
        go_round
        case rel => exact ⟨k + 1, by omega, by go_num, Hnx⟩
        case measure => simp [intOf]; omega
      | false =>
        have He := Lib.hid (hend (fun _ _ => hq))
        clear hp hq hend
        go_wp2_with (fail)
        refine Hp.out.mono ?_
        rintro e w' ⟨rfl, rfl⟩
        go_upto_region 5 with (fail)
        obtain ⟨t, Ht⟩ : ∃ t, Hid (t = s.extract 0 k) := ⟨_, rfl⟩
        rw [← Ht.out]
        have htl : t.data.toList = s.data.toList.takeWhile lexB := by rw [Ht.out, pre_list, He.out.2]
        have htz : t.size = k := by rw [← szl t, Ht.out, pre_list, List.length_take, szl]; omega
        have h0t : 0 < t.size := by rw [htz]; exact He.out.1
        have htd := drop_at t 0 h0t
        rw [List.drop_zero] at htd
        have hstr : str t.data.toList = t := rfl
        have hk1 := Hk1.out
        obtain ⟨c0, c1, c2, c3, clt⟩ := cells4 hk1
        have hfz := hk1.frozen
        have Hfin := Lib.hid (fun (wr : World) (hb : Below w1.heap.size w1 wr) (k0 : Int) (t0 : ByteArray) (n0 a0 : Int) => lex_laid (Hk1.out.as_was (hb.block _ Hk1.out.lt)) Hb1.out Hz1.out hb k0 t0 n0 a0)
        have hlen : s.data.toList.takeWhile lexB = t.data.toList ∧ (t.data.toList.length : Int) = k := ⟨htl.symm, by rw [szl, htz]⟩
        have Hlen := Lib.hid hlen
        clear hk1 c0 c1 c2 c3 clt hfz
        cases hd : dgB t[0] with
        | true =>
          have hdh : t.data.toList.head?.any dgB = true := by rw [htd]; simpa using hd
          have hcp := calcParse_any t w1 h0t (by omega) hd
          have hdc : 48 ≤ t[0].toNat ∧ t[0].toNat ≤ 57 := by simpa [dgB] using hd
          obtain ⟨e1, e2⟩ := hdc
          have Hcp := Lib.hid hcp
          have Hdh := Lib.hid hdh
          clear hcp hdh hd htd htl hlen hstr htz
          go_wp2_with (fail)
          refine Hcp.out.mono ?_
          rintro e w2 ⟨⟨v, er, rfl, hN⟩, hb2⟩
          have hk2 := Hk1.out.as_was (hb2.block _ Hk1.out.lt)
          obtain ⟨c0, c1, c2, c3, clt⟩ := cells4 hk2
          have hfz := hk2.frozen
          have HN := Lib.hid (fun b hb => num_said Hdh.out hN s.data.toList Hlen.out.1 b hb)
          have Hb2 := Lib.hid hb2
          clear hN hb2 hk2
          rcases Classical.em (er = 0) with her | her
          · have b5 : (er == 0) = true := by rw [beq_iff_eq]; exact her
            have HN2 := Lib.hid (HN.out true (by rw [decide_eq_true her]))
            clear her
            go_wp2
            refine bodyPost_ret (ret_word3 Tryz.results65 rfl (Hfin.out w2 Hb2.out 1 t v 0).1 rfl rfl rfl) rfl ⟨?_, (Hfin.out w2 Hb2.out 1 t v 0).2⟩
            have hlast := HN2.out
            rw [Hlen.out.2] at hlast
            exact hlast
          · have b5 : (er == 0) = false := by rw [beq_eq_false_iff_ne]; exact her
            have HN2 := Lib.hid (HN.out false (by rw [decide_eq_false her]))
            clear her
            go_wp2
            refine bodyPost_ret (ret_word3 Tryz.results65 rfl (Hfin.out w2 Hb2.out 1 t v 0).1 rfl rfl rfl) rfl ⟨?_, (Hfin.out w2 Hb2.out 1 t v 0).2⟩
            have hlast := HN2.out
            rw [Hlen.out.2] at hlast
            exact hlast
        | false =>
          have hdh : t.data.toList.head?.any dgB = false := by rw [htd]; simpa using hd
          have hal := (Below.refl w1.heap.size w1).alloc (Nat.le_refl _) (.cells #[.string t] 9)
          have hcp := namedL_any (fun _ => True) (some ⟨w1.heap.size, 0, none⟩) 1 1 [t] (w1.alloc (.cells #[.string t] 9)) ⟨[[.string t]], RowsAt.lit' _ _ 1 rfl rfl (by simp) rfl (by unfold maxLen; omega), fun _ _ _ => trivial, rfl, fun i r x hr hx => by
            rcases i with _ | i
            · simp at hr hx; subst hr hx; exact ⟨rfl, rfl, by unfold okS; omega⟩
            · simp at hr⟩
          have e6 : [t].all namedB = namedB t := by simp
          rw [e6] at hcp
          have hN := name_said hdh s.data.toList htl.symm
          rw [hstr] at hN
          have hdc : t[0].toNat < 48 ∨ 57 < t[0].toNat := by
            rcases Nat.lt_or_ge t[0].toNat 48 with h | h
            · exact .inl h
            · right
              have h2 : ¬ (48 ≤ t[0].toNat ∧ t[0].toNat ≤ 57) := fun h3 => by
                have h4 : dgB t[0] = true := by simp [dgB, h3]
                rw [hd] at h4; cases h4
              omega
          have Hcp := Lib.hid hcp
          have Hal := Lib.hid hal
          have HN := Lib.hid hN
          clear hcp hdh hd htd htl hlen hal hN hstr e6 htz
          rcases hdc with e1 | e1
          all_goals
            go_wp2_with (fail)
            refine Hcp.out.mono ?_
            rintro e w2 ⟨rfl, hb2⟩
            have hb12 := Hal.out.trans (hb2.mono Hal.out.size)
            have hk2 := Hk1.out.as_was (hb12.block _ Hk1.out.lt)
            obtain ⟨c0, c1, c2, c3, clt⟩ := cells4 hk2
            have hfz := hk2.frozen
            have Hb2 := Lib.hid hb12
            clear hb2 hk2 hb12
            go_wp2
            refine bodyPost_ret (ret_word3 Tryz.results65 rfl (Hfin.out w2 Hb2.out 3 t 0 0).1 rfl rfl rfl) rfl ⟨?_, (Hfin.out w2 Hb2.out 3 t 0 0).2⟩
            have hlast := HN.out
            rw [Hlen.out.2] at hlast
            exact hlast
    · have He := Lib.hid (hend (fun h => by omega))
      clear hend
      go_upto_region 5 with (fail)
      obtain ⟨t, Ht⟩ : ∃ t, Hid (t = s.extract 0 k) := ⟨_, rfl⟩
      rw [← Ht.out]
      have htl : t.data.toList = s.data.toList.takeWhile lexB := by rw [Ht.out, pre_list, He.out.2]
      have htz : t.size = k := by rw [← szl t, Ht.out, pre_list, List.length_take, szl]; omega
      have h0t : 0 < t.size := by rw [htz]; exact He.out.1
      have htd := drop_at t 0 h0t
      rw [List.drop_zero] at htd
      have hstr : str t.data.toList = t := rfl
      have hk1 := Hk1.out
      obtain ⟨c0, c1, c2, c3, clt⟩ := cells4 hk1
      have hfz := hk1.frozen
      have Hfin := Lib.hid (fun (wr : World) (hb : Below w1.heap.size w1 wr) (k0 : Int) (t0 : ByteArray) (n0 a0 : Int) => lex_laid (Hk1.out.as_was (hb.block _ Hk1.out.lt)) Hb1.out Hz1.out hb k0 t0 n0 a0)
      have hlen : s.data.toList.takeWhile lexB = t.data.toList ∧ (t.data.toList.length : Int) = k := ⟨htl.symm, by rw [szl, htz]⟩
      have Hlen := Lib.hid hlen
      clear hk1 c0 c1 c2 c3 clt hfz
      cases hd : dgB t[0] with
      | true =>
        have hdh : t.data.toList.head?.any dgB = true := by rw [htd]; simpa using hd
        have hcp := calcParse_any t w1 h0t (by omega) hd
        have hdc : 48 ≤ t[0].toNat ∧ t[0].toNat ≤ 57 := by simpa [dgB] using hd
        obtain ⟨e1, e2⟩ := hdc
        have Hcp := Lib.hid hcp
        have Hdh := Lib.hid hdh
        clear hcp hdh hd htd htl hlen hstr htz
        go_wp2_with (fail)
        refine Hcp.out.mono ?_
        rintro e w2 ⟨⟨v, er, rfl, hN⟩, hb2⟩
        have hk2 := Hk1.out.as_was (hb2.block _ Hk1.out.lt)
        obtain ⟨c0, c1, c2, c3, clt⟩ := cells4 hk2
        have hfz := hk2.frozen
        have HN := Lib.hid (fun b hb => num_said Hdh.out hN s.data.toList Hlen.out.1 b hb)
        have Hb2 := Lib.hid hb2
        clear hN hb2 hk2
        rcases Classical.em (er = 0) with her | her
        · have b5 : (er == 0) = true := by rw [beq_iff_eq]; exact her
          have HN2 := Lib.hid (HN.out true (by rw [decide_eq_true her]))
          clear her
          go_wp2
          refine bodyPost_ret (ret_word3 Tryz.results65 rfl (Hfin.out w2 Hb2.out 1 t v 0).1 rfl rfl rfl) rfl ⟨?_, (Hfin.out w2 Hb2.out 1 t v 0).2⟩
          have hlast := HN2.out
          rw [Hlen.out.2] at hlast
          exact hlast
        · have b5 : (er == 0) = false := by rw [beq_eq_false_iff_ne]; exact her
          have HN2 := Lib.hid (HN.out false (by rw [decide_eq_false her]))
          clear her
          go_wp2
          refine bodyPost_ret (ret_word3 Tryz.results65 rfl (Hfin.out w2 Hb2.out 1 t v 0).1 rfl rfl rfl) rfl ⟨?_, (Hfin.out w2 Hb2.out 1 t v 0).2⟩
          have hlast := HN2.out
          rw [Hlen.out.2] at hlast
          exact hlast
      | false =>
        have hdh : t.data.toList.head?.any dgB = false := by rw [htd]; simpa using hd
        have hal := (Below.refl w1.heap.size w1).alloc (Nat.le_refl _) (.cells #[.string t] 9)
        have hcp := namedL_any (fun _ => True) (some ⟨w1.heap.size, 0, none⟩) 1 1 [t] (w1.alloc (.cells #[.string t] 9)) ⟨[[.string t]], RowsAt.lit' _ _ 1 rfl rfl (by simp) rfl (by unfold maxLen; omega), fun _ _ _ => trivial, rfl, fun i r x hr hx => by
          rcases i with _ | i
          · simp at hr hx; subst hr hx; exact ⟨rfl, rfl, by unfold okS; omega⟩
          · simp at hr⟩
        have e6 : [t].all namedB = namedB t := by simp
        rw [e6] at hcp
        have hN := name_said hdh s.data.toList htl.symm
        rw [hstr] at hN
        have hdc : t[0].toNat < 48 ∨ 57 < t[0].toNat := by
          rcases Nat.lt_or_ge t[0].toNat 48 with h | h
          · exact .inl h
          · right
            have h2 : ¬ (48 ≤ t[0].toNat ∧ t[0].toNat ≤ 57) := fun h3 => by
              have h4 : dgB t[0] = true := by simp [dgB, h3]
              rw [hd] at h4; cases h4
            omega
        have Hcp := Lib.hid hcp
        have Hal := Lib.hid hal
        have HN := Lib.hid hN
        clear hcp hdh hd htd htl hlen hal hN hstr e6 htz
        rcases hdc with e1 | e1
        all_goals
          go_wp2_with (fail)
          refine Hcp.out.mono ?_
          rintro e w2 ⟨rfl, hb2⟩
          have hb12 := Hal.out.trans (hb2.mono Hal.out.size)
          have hk2 := Hk1.out.as_was (hb12.block _ Hk1.out.lt)
          obtain ⟨c0, c1, c2, c3, clt⟩ := cells4 hk2
          have hfz := hk2.frozen
          have Hb2 := Lib.hid hb12
          clear hb2 hk2 hb12
          go_wp2
          refine bodyPost_ret (ret_word3 Tryz.results65 rfl (Hfin.out w2 Hb2.out 3 t 0 0).1 rfl rfl rfl) rfl ⟨?_, (Hfin.out w2 Hb2.out 3 t 0 0).2⟩
          have hlast := HN.out
          rw [Hlen.out.2] at hlast
          exact hlast
end Go.Proofs.YtlakeanldbdedaaGreat

namespace Go.Proofs.YtlakeanldbdedaaGreat
open Go.RowKit Go.Afx

theorem signs_any (w : World) : Calls Tryz.prog 67 #[] w fun x w' => (∃ A c, x = .returned (.slice A 21 c) ∧ TxsAt w' A 21 c (signsL.map str)) ∧ Below w.heap.size w w' := by
  have hT := TxsAt.lit (w := w) (g := w.heap.size) 9 (signsL.map str) 21 rfl (by simp [signsL]) (by omega)
  have hb := (Below.refl w.heap.size w).alloc (Nat.le_refl _) (.cells ((signsL.map str).map Value.string).toArray 9)
  have HT := Lib.hid (And.intro hT hb)
  clear hT hb
  go_enter Tryz.func67, Tryz.ntmps67
  go_wp2
  go_ret
  exact ⟨⟨_, _, rfl, HT.out.1⟩, HT.out.2⟩
theorem find_step {l : List (List UInt8)} {k : Nat} {g s : List UInt8} (hg : l[k]? = some g) : (g.isPrefixOf s = true → (l.drop k).find? (fun g => g.isPrefixOf s) = some g) ∧ (g.isPrefixOf s = false → (l.drop k).find? (fun g => g.isPrefixOf s) = (l.drop (k + 1)).find? (fun g => g.isPrefixOf s)) := by
  have hlt := (List.getElem?_eq_some_iff.1 hg).1
  have e : l.drop k = g :: l.drop (k + 1) := by
    rw [List.drop_eq_getElem_cons hlt, (List.getElem?_eq_some_iff.1 hg).2]
  rw [e]
  exact ⟨fun h => by simp [h], fun h => by simp [h]⟩
/-- a word is handed on -/
theorem said_cell {o : Option Nx} {e : Ending} (h : NextSaid o e) : ∃ (k : Int) (t : ByteArray) (n m : Int) (b : Bool), e = .returned (.tuple #[.agg #[.int .i64 k, .string t, .int .i64 n, .int .i64 0], .int .i64 m, .bool b]) := by
  cases o with
  | none => obtain ⟨k, t, m, n, rfl⟩ := h; exact ⟨_, _, _, _, _, rfl⟩
  | some x => exact ⟨_, _, _, _, _, h⟩
set_option maxRecDepth 100000 in
set_option maxHeartbeats 4000000 in
theorem next_any (s : ByteArray) (w : World) (h0 : 0 < s.size) (hs : s.size ≤ 1000000000) :
    Calls Tryz.prog 25 #[.string s] w fun x w' => NextSaid (nextX s.data.toList) x ∧ Below w.heap.size w w' := by
  obtain ⟨w1, Hw1⟩ : ∃ w1, Hid (w1 = w.alloc (.cells #[.int .i64 0, .string ⟨#[]⟩, .int .i64 0, .int .i64 0] 36)) := ⟨_, rfl⟩
  have hb1 : Below w.heap.size w w1 := by rw [Hw1.out]; exact (Below.refl _ _).alloc (Nat.le_refl _) _
  have hk1 : IsBlk w1 w.heap.size 36 #[.int .i64 0, .string ⟨#[]⟩, .int .i64 0, .int .i64 0] := by rw [Hw1.out]; exact IsBlk.laid _ _ _
  have hz1 : w1.heap.size = w.heap.size + 1 := by rw [Hw1.out]; simp
  have Hb1 := Lib.hid hb1
  have Hk1 := Lib.hid hk1
  have Hz1 := Lib.hid hz1
  have hst := drop_at s 0 h0
  rw [List.drop_zero] at hst
  have hhd : s.data.toList.head? = some s[0] := by rw [hst]; rfl
  have hp := lexPart_any s[0] w1
  have hpl := fun hc => plain_any s w1 h0 hc hs
  have hqu := quoted_any s w1 h0 hs
  have hN : nextX s.data.toList = if lexB s[0] then plainX s.data.toList else if s[0].toNat = 39 then quotedX s.data.toList else signX s.data.toList := by
    unfold nextX
    rw [hhd]
    simp
  have Hfin := Lib.hid (fun (wr : World) (hb : Below w1.heap.size w1 wr) (k0 : Int) (t0 : ByteArray) (n0 a0 : Int) => lex_laid (Hk1.out.as_was (hb.block _ Hk1.out.lt)) Hb1.out Hz1.out hb k0 t0 n0 a0)
  clear hb1 hk1 hz1 hhd hst
  obtain ⟨q, hq⟩ : ∃ q, lexB s[0] = q := ⟨_, rfl⟩
  rw [hq] at hp hN
  have Hp := Lib.hid hp
  have Hqu := Lib.hid hqu
  cases q with
  | true =>
    have Hpl := Lib.hid (hpl hq)
    rw [if_pos rfl] at hN
    rw [hN]
    clear hN hp hpl hqu hq
    go_enter Tryz.func25, Tryz.ntmps25
    go_upto_region 1 with (fail)
    rw [← Hw1.out]
    go_wp2_with (fail)
    refine Hp.out.mono ?_
    rintro e w' ⟨rfl, rfl⟩
    go_wp2_with (fail)
    refine Hpl.out.mono ?_
    rintro e w2 ⟨hS, hb2⟩
    obtain ⟨k, t, n, m, b, rfl⟩ := said_cell hS
    have hk2 := Hk1.out.as_was (hb2.block _ Hk1.out.lt)
    obtain ⟨c0, c1, c2, c3, clt⟩ := cells4 hk2
    have hfz := hk2.frozen
    have HS := Lib.hid hS
    have Hb2 := Lib.hid hb2
    clear hS hk2 hb2
    go_wp2
    exact bodyPost_ret (ret_word3 Tryz.results25 rfl (Hfin.out _ Hb2.out k t n 0).1 rfl rfl rfl) rfl ⟨HS.out, (Hfin.out _ Hb2.out k t n 0).2⟩
  | false =>
    rw [if_neg (by decide)] at hN
    rcases Classical.em (s[0].toNat = 39) with e39 | e39
    · rw [if_pos e39] at hN
      rw [hN]
      have b1 : ((s[0].toNat : Int) == 39) = true := by rw [beq_iff_eq]; omega
      clear hN hp hpl hqu hq e39
      go_enter Tryz.func25, Tryz.ntmps25
      go_upto_region 1 with (fail)
      rw [← Hw1.out]
      go_wp2_with (fail)
      refine Hp.out.mono ?_
      rintro e w' ⟨rfl, rfl⟩
      go_wp2_with (fail)
      refine Hqu.out.mono ?_
      rintro e w2 ⟨hS, hb2⟩
      obtain ⟨k, t, n, m, b, rfl⟩ := said_cell hS
      have hk2 := Hk1.out.as_was (hb2.block _ Hk1.out.lt)
      obtain ⟨c0, c1, c2, c3, clt⟩ := cells4 hk2
      have hfz := hk2.frozen
      have HS := Lib.hid hS
      have Hb2 := Lib.hid hb2
      clear hS hk2 hb2
      go_wp2
      exact bodyPost_ret (ret_word3 Tryz.results25 rfl (Hfin.out _ Hb2.out k t n 0).1 rfl rfl rfl) rfl ⟨HS.out, (Hfin.out _ Hb2.out k t n 0).2⟩
    · rw [if_neg e39] at hN
      rw [hN]
      have b1 : ((s[0].toNat : Int) == 39) = false := by rw [beq_eq_false_iff_ne]; omega
      obtain ⟨m, Hm⟩ : ∃ m, Hid (m = signX s.data.toList) := ⟨_, rfl⟩
      rw [← Hm.out]
      have Hsg := Lib.hid (signs_any w1)
      clear hN hp hpl hqu hq e39
      go_enter Tryz.func25, Tryz.ntmps25
      go_upto_region 1 with (fail)
      rw [← Hw1.out]
      go_wp2_with (fail)
      refine Hp.out.mono ?_
      rintro e w' ⟨rfl, rfl⟩
      go_wp2_with (fail)
      refine Hsg.out.mono ?_
      rintro e w2 ⟨⟨A, c, rfl, hT⟩, hb2⟩
      have hk2 := Hk1.out.as_was (hb2.block _ Hk1.out.lt)
      obtain ⟨c0, c1, c2, c3, clt⟩ := cells4 hk2
      have hfz := hk2.frozen
      have HT := Lib.hid hT
      have Hb2 := Lib.hid hb2
      clear hT hk2 hb2
      go_wp2
      go_loop [27] (fun i => ∃ k : Nat, k ≤ 21 ∧ i = .int .i64 k ∧ Hid (m = ((signsL.drop k).find? fun g => g.isPrefixOf s.data.toList).map fun g => ⟨0, g, 0, g.length⟩)) (fun i => 21 - (intOf i).toNat)
      case atStart => exact ⟨0, by omega, rfl, Hm⟩
      case round =>
        obtain ⟨k, hk, rfl, HF⟩ := hrel
        rcases Nat.lt_or_ge k 21 with hlt | hge
        · obtain ⟨b, o, x, rfl, hbl, hx, hcl⟩ := HT.out.get (k := k) hlt
          rw [List.getElem?_map] at hx
          obtain ⟨g, hg⟩ : ∃ g, signsL[k]? = some g := ⟨_, List.getElem?_eq_getElem (by simp [signsL]; omega)⟩
          rw [hg] at hx
          have hx : str g = x := by simpa using hx
          subst hx
          have hpf := Tryz.strings_HasPrefix s (str g) w2
          obtain ⟨f1, f2⟩ := find_step (s := s.data.toList) hg
          have hpf : Calls Tryz.prog 63 #[.string s, .string (str g)] w2 fun e w' => e = .returned (.bool (g.isPrefixOf s.data.toList)) ∧ w' = w2 := hpf
          have hgl : (str g).size = g.length := rfl
          obtain ⟨q, hq⟩ : ∃ q, g.isPrefixOf s.data.toList = q := ⟨_, rfl⟩
          rw [hq] at hpf f1 f2
          have Hpf := Lib.hid hpf
          have Hgl := Lib.hid hgl
          cases q with
          | true =>
            have hm : m = some ⟨0, g, 0, g.length⟩ := by rw [HF.out, f1 rfl]; rfl
            have Hmm := Lib.hid hm
            clear hpf f1 f2 hq hg hm hgl
            go_wp2_with (fail)
            refine Hpf.out.mono ?_
            rintro e w' ⟨rfl, rfl⟩
            go_wp2
            refine bodyPost_ret (ret_word3 Tryz.results25 rfl (Hfin.out _ Hb2.out 0 (str g) 0 0).1 rfl rfl rfl) rfl ⟨?_, (Hfin.out _ Hb2.out 0 (str g) 0 0).2⟩
            rw [Hmm.out]
            rfl
          | false =>
            have hm := HF.out
            rw [f2 rfl] at hm
            have Hmm := Lib.hid hm
            clear hpf f1 f2 hq hg hm hgl
            go_wp2_with (fail)
            refine Hpf.out.mono ?_
            rintro e w' ⟨rfl, rfl⟩
            go_wp2
            go_round
            case rel => exact ⟨k + 1, by omega, by go_num, Hmm⟩
            case measure => simp [intOf]; omega
        · have hm : m = none := by
            rw [HF.out, List.drop_eq_nil_of_le (by simp [signsL]; omega)]
            rfl
          have Hmm := Lib.hid hm
          clear hm
          go_wp2
          refine bodyPost_ret (ret_word3 Tryz.results25 rfl (Hfin.out _ Hb2.out 0 ⟨#[]⟩ 0 0).1 rfl rfl rfl) rfl ⟨?_, (Hfin.out _ Hb2.out 0 ⟨#[]⟩ 0 0).2⟩
          rw [Hmm.out]
          exact ⟨_, _, _, _, rfl⟩
end Go.Proofs.YtlakeanldbdedaaGreat
