/- Parts of this proof, one behind the other: PrtU, PrtV, PrtT0, PrtT. -/
import Derived.Test.YthiimingnmbgmaaDoorPe35
import Derived.Test.YthiimingnmbgmaaDoorPe36
import Derived.Test.YthiimingnmbgmaaDoorPe26
import Derived.Test.YthiimingnmbgmaaDoorPe29
namespace Go.Proofs.YthiimingnmbgmaaDoor
open Go.RowKit Go.Afx

theorem Six.below {w w' : World} {b o : Nat} {e : Ex} {A : Option Addr} {m c : Nat} (h : Six w b o e A m c) (hb : b < w.heap.size) (hw : Below w.heap.size w w') : Six w' b o e A m c := by
  obtain ⟨h0, h1, h2, h3, h4, h5⟩ := h
  exact ⟨(hw.cell (p := ⟨b, o, none⟩) hb).trans h0, (hw.cell (p := ⟨b, o + 1, none⟩) hb).trans h1, (hw.cell (p := ⟨b, o + 2, none⟩) hb).trans h2, (hw.cell (p := ⟨b, o + 3, none⟩) hb).trans h3, (hw.cell (p := ⟨b, o + 4, none⟩) hb).trans h4, (hw.cell (p := ⟨b, o + 5, none⟩) hb).trans h5⟩
set_option maxHeartbeats 4000000 in
theorem newline_any : ∀ (d : Nat) (F : Nat → Prop) (e : Ex) (row : List Value) (w : World), ExAt F d w row e →
    Calls Tryd.prog 9 #[.agg row.toArray] w fun x w' => x = .returned (.bool (nlE d e)) ∧ Below w.heap.size w w' := by
  intro d
  induction d with
  | zero => intro F e row w h; exact h.elim
  | succ d ih =>
    intro F e row w h
    obtain ⟨op, n, s, name, src, args⟩ := e
    obtain ⟨hop, _, hsz, _⟩ := h.open_
    have hsz : s.size ≤ 9223372036854775807 := hsz
    obtain ⟨A, c, rfl, hc1, hc2, hat⟩ := args_at h
    obtain ⟨w1, Hw1⟩ : ∃ w1, Hid (w1 = w.alloc (.cells #[.int .i64 op, .int .i64 n, .string s, .string name, .string src, .slice A args.length c] 35)) := ⟨_, rfl⟩
    have hb1 : Below w.heap.size w w1 := by rw [Hw1.out]; exact (Below.refl _ _).alloc (Nat.le_refl _) _
    have hk1 : IsBlk w1 w.heap.size 35 #[.int .i64 op, .int .i64 n, .string s, .string name, .string src, .slice A args.length c] := by rw [Hw1.out]; exact IsBlk.laid _ _ _
    have Hx := Lib.hid (fun W (hW : Below w1.heap.size w1 W) => box6 (hk1.as_was (hW.block _ hk1.lt)))
    obtain ⟨x0, x1, x2, x3, x4, x5, xl⟩ := Hx.out _ (Below.refl _ _)
    have Hb1 := Lib.hid hb1
    have hget0 : args ≠ [] → ∃ b o, A = some (⟨b, o, none⟩ : Addr) ∧ b < w.heap.size ∧ ∀ k a, args[k]? = some a → ∃ A2 m2 c2, Six w b (o + k * 6) a A2 m2 c2 ∧ ExAt F d w (rowOf a A2 m2 c2) a := fun hne => by
      obtain ⟨b, o, hA, _, hbl, hg⟩ := hat hne
      exact ⟨b, o, hA, hbl, hg⟩
    have Hget := Lib.hid hget0
    have hnl := nl_op (d := d) (op := op) (n := n) (s := s) (name := name) (src := src) (args := args)
    generalize nlE (d + 1) (.mk op n s name src args) = fin at *
    have Hnl := Lib.hid hnl
    clear hnl h hat hb1 hk1 hop hget0
    have hn : args.length ≤ 9223372036854775807 := by omega
    go_enter Tryd.func9, Tryd.ntmps9
    go_upto_region 1 with (fail)
    rw [← Hw1.out]
    go_wp2
    go_loopw [3] (fun i wr => ∃ k : Nat, k ≤ s.size ∧ i = .int .i64 k ∧ Hid ((s.data.toList.take k).any (· == 10) = false) ∧ w1 = wr) (fun i _ => s.size - (intOf i).toNat)
    case atStart => exact ⟨0, Nat.zero_le _, rfl, Lib.hid (by simp), rfl⟩
    case round =>
      obtain ⟨k, hk, rfl, HS, rfl⟩ := hrel
      rcases Nat.lt_or_ge k s.size with hlt | hge
      · rcases Classical.em (op = 2) with h2 | h2
        · have q2 : (op == 2) = true := by simp [h2]
          have hg : s[k]'hlt = s.data.toList[k]'hlt := rfl
          have hlen : k < s.data.toList.length := hlt
          have Ht := Lib.hid (List.take_succ_eq_append_getElem hlen)
          rcases Classical.em (s.data.toList[k]'hlt = 10) with h9 | h9
          · have q9 : (((s[k]'hlt).toNat : Int) == 10) = true := by rw [hg, h9]; rfl
            have H9 := Lib.hid h9
            have Hop := Lib.hid h2
            clear h9 hg h2
            go_wp2
            go_ret
            refine ⟨ret_b ?_, Hb1.out⟩
            rw [Hnl.out]
            have hm : s.data.toList.any (· == 10) = true := List.any_eq_true.2 ⟨s.data.toList[k]'hlt, List.getElem_mem _, by rw [H9.out]; rfl⟩
            rw [hm, decide_eq_true Hop.out]
            rfl
          · have q9 : (((s[k]'hlt).toNat : Int) == 10) = false := by
              rw [hg]
              simp only [beq_eq_false_iff_ne, ne_eq]
              intro h
              exact h9 (UInt8.toNat_inj.1 (by show _ = (10 : Nat); omega))
            have H9 := Lib.hid h9
            clear h9 hg h2
            go_wp2
            go_roundw
            case rel =>
              refine ⟨k + 1, by omega, by go_num, Lib.hid ?_, trivial⟩
              rw [Ht.out, List.any_append, HS.out]
              have h9 := H9.out
              generalize s.data.toList[k] = x at h9 ⊢
              simp [h9]
            case measure => simp [intOf]; omega
        · have q2 : (op == 2) = false := by simp [h2]
          have Hno : Hid ((decide (op = 2) && s.data.toList.any (· == 10)) = false) := Lib.hid (by rw [decide_eq_false h2]; rfl)
          clear h2
          go_wp2
          go_loopw [4] (fun i wr => ∃ k : Nat, k ≤ args.length ∧ i = .int .i64 k ∧ Hid ((args.take k).any (nlE d) = false) ∧ Below w1.heap.size w1 wr) (fun i _ => args.length - (intOf i).toNat)
          case atStart => exact ⟨0, Nat.zero_le _, rfl, Lib.hid (by simp), Below.refl _ _⟩
          case round =>
            obtain ⟨k, hk, rfl, HA, hW⟩ := hrel
            obtain ⟨y0, y1, y2, y3, y4, y5, yl⟩ := Hx.out _ hW
            rcases Nat.lt_or_ge k args.length with hlt | hge
            · obtain ⟨a, ha⟩ : ∃ a, args[k]? = some a := ⟨args[k]'hlt, List.getElem?_eq_getElem hlt⟩
              obtain ⟨b, o, rfl, hbl, hget⟩ := Hget.out (by intro e; rw [e] at hlt; simp at hlt)
              obtain ⟨A2, m2, c2, hS, hxa⟩ := hget k a ha
              have hall := Hb1.out.trans (hW.mono Hb1.out.size)
              obtain ⟨z0, z1, z2, z3, z4, z5⟩ := hS.below hbl hall
              have hbl2 : b < wr.heap.size := Nat.lt_of_lt_of_le hbl hall.size
              have Hc := Lib.hid (ih F a _ wr (hxa.below hall))
              have Ha := Lib.hid ha
              have HW := Lib.hid hW
              clear hS hxa hall hget ha hW
              generalize hq : nlE d a = q at *
              have Hq := Lib.hid hq
              clear hq
              cases q
              · go_wp2_with (go_at_call 9; refine Hc.out.mono ?_; rintro x w3 ⟨rfl, hb3⟩)
                go_roundw
                case rel =>
                  refine ⟨k + 1, by omega, by go_num, Lib.hid ?_, HW.out.trans (hb3.mono HW.out.size)⟩
                  obtain ⟨hk2, e2⟩ := List.getElem?_eq_some_iff.1 Ha.out
                  rw [List.take_succ_eq_append_getElem hk2, List.any_append, HA.out, e2]
                  simp [Hq.out]
                case measure => simp [intOf]; omega
              · go_wp2_with (go_at_call 9; refine Hc.out.mono ?_; rintro x w3 ⟨rfl, hb3⟩)
                go_ret
                refine ⟨ret_b ?_, Hb1.out.trans ((HW.out.trans (hb3.mono HW.out.size)).mono Hb1.out.size)⟩
                rw [Hnl.out]
                have hm : args.any (nlE d) = true := List.any_eq_true.2 ⟨a, List.mem_of_getElem? Ha.out, Hq.out⟩
                rw [hm, Bool.or_true]
            · have HW := Lib.hid hW
              have HB := Lib.hid hge
              clear hW
              go_wp2
              go_ret
              refine ⟨ret_b ?_, Hb1.out.trans (HW.out.mono Hb1.out.size)⟩
              rw [Hnl.out, Hno.out]
              have h := HA.out
              rw [List.take_of_length_le HB.out] at h
              rw [h, Bool.or_false]
      · have Hno : Hid ((decide (op = 2) && s.data.toList.any (· == 10)) = false) := Lib.hid (by
          have h := HS.out
          rw [List.take_of_length_le hge] at h
          rw [h, Bool.and_false])
        go_wp2
        go_loopw [4] (fun i wr => ∃ k : Nat, k ≤ args.length ∧ i = .int .i64 k ∧ Hid ((args.take k).any (nlE d) = false) ∧ Below w1.heap.size w1 wr) (fun i _ => args.length - (intOf i).toNat)
        case atStart => exact ⟨0, Nat.zero_le _, rfl, Lib.hid (by simp), Below.refl _ _⟩
        case round =>
          obtain ⟨k, hk, rfl, HA, hW⟩ := hrel
          obtain ⟨y0, y1, y2, y3, y4, y5, yl⟩ := Hx.out _ hW
          rcases Nat.lt_or_ge k args.length with hlt | hge
          · obtain ⟨a, ha⟩ : ∃ a, args[k]? = some a := ⟨args[k]'hlt, List.getElem?_eq_getElem hlt⟩
            obtain ⟨b, o, rfl, hbl, hget⟩ := Hget.out (by intro e; rw [e] at hlt; simp at hlt)
            obtain ⟨A2, m2, c2, hS, hxa⟩ := hget k a ha
            have hall := Hb1.out.trans (hW.mono Hb1.out.size)
            obtain ⟨z0, z1, z2, z3, z4, z5⟩ := hS.below hbl hall
            have hbl2 : b < wr.heap.size := Nat.lt_of_lt_of_le hbl hall.size
            have Hc := Lib.hid (ih F a _ wr (hxa.below hall))
            have Ha := Lib.hid ha
            have HW := Lib.hid hW
            clear hS hxa hall hget ha hW
            generalize hq : nlE d a = q at *
            have Hq := Lib.hid hq
            clear hq
            cases q
            · go_wp2_with (go_at_call 9; refine Hc.out.mono ?_; rintro x w3 ⟨rfl, hb3⟩)
              go_roundw
              case rel =>
                refine ⟨k + 1, by omega, by go_num, Lib.hid ?_, HW.out.trans (hb3.mono HW.out.size)⟩
                obtain ⟨hk2, e2⟩ := List.getElem?_eq_some_iff.1 Ha.out
                rw [List.take_succ_eq_append_getElem hk2, List.any_append, HA.out, e2]
                simp [Hq.out]
              case measure => simp [intOf]; omega
            · go_wp2_with (go_at_call 9; refine Hc.out.mono ?_; rintro x w3 ⟨rfl, hb3⟩)
              go_ret
              refine ⟨ret_b ?_, Hb1.out.trans ((HW.out.trans (hb3.mono HW.out.size)).mono Hb1.out.size)⟩
              rw [Hnl.out]
              have hm : args.any (nlE d) = true := List.any_eq_true.2 ⟨a, List.mem_of_getElem? Ha.out, Hq.out⟩
              rw [hm, Bool.or_true]
          · have HW := Lib.hid hW
            have HB := Lib.hid hge
            clear hW
            go_wp2
            go_ret
            refine ⟨ret_b ?_, Hb1.out.trans (HW.out.mono Hb1.out.size)⟩
            rw [Hnl.out, Hno.out]
            have h := HA.out
            rw [List.take_of_length_le HB.out] at h
            rw [h, Bool.or_false]
end Go.Proofs.YthiimingnmbgmaaDoor

namespace Go.Proofs.YthiimingnmbgmaaDoor
open Go.RowKit Go.Afx

theorem told_no (want : ByteArray) (w : World) : Calls Tryd.prog 11 #[.string ⟨#[]⟩, .int .i64 1, .bool false, .string want] w fun x w' => x = .returned (.bool true) ∧ w = w' := by
  go_enter Tryd.func11, Tryd.ntmps11
  go_wp2
  go_ret
  exact ⟨rfl, rfl⟩
theorem told_long (want : ByteArray) (w : World) (h : 8000 < want.size) : Calls Tryd.prog 11 #[.string ⟨#[]⟩, .int .i64 5, .bool true, .string want] w fun x w' => x = .returned (.bool true) ∧ w = w' := by
  have hd : decide ((8000 : Int) < (want.size : Int)) = true := by simp; omega
  clear h
  go_enter Tryd.func11, Tryd.ntmps11
  go_wp2
  go_ret
  exact ⟨rfl, rfl⟩
theorem told_yes (want : ByteArray) (w : World) (h : ¬ 8000 < want.size) : Calls Tryd.prog 11 #[.string want, .int .i64 0, .bool true, .string want] w fun x w' => x = .returned (.bool true) ∧ w = w' := by
  have hd : decide ((8000 : Int) < (want.size : Int)) = false := by simp; omega
  clear h
  go_enter Tryd.func11, Tryd.ntmps11
  go_wp2
  go_ret
  exact ⟨rfl, rfl⟩
theorem arr_size (l : List UInt8) : (⟨l.toArray⟩ : ByteArray).size = l.length := by
  show l.toArray.size = _
  simp
/-- what print.Expr answers is told, if the document says the same -/
theorem told_any (d : Nat) (e : Ex) (w : World) : Calls Tryd.prog 11 #[.string ⟨(exprS d e).1.toArray⟩, .int .i64 (exprS d e).2, .bool (rightE d e && !nlE d e), .string (if (rightE d e && !nlE d e) = true then ⟨(txtE d e).toArray⟩ else ⟨#[]⟩)] w fun x w' => x = .returned (.bool true) ∧ w = w' := by
  unfold exprS printS
  cases rightE d e
  · exact told_no _ w
  · cases nlE d e
    · by_cases h : 8000 < (txtE d e).length
      · have hs : 8000 < (⟨(txtE d e).toArray⟩ : ByteArray).size := by rw [arr_size]; exact h
        have hr := told_long _ w hs
        simpa [h] using hr
      · have hs : ¬ 8000 < (⟨(txtE d e).toArray⟩ : ByteArray).size := by rw [arr_size]; exact h
        have hr := told_yes _ w hs
        simpa [h] using hr
    · exact told_no _ w
end Go.Proofs.YthiimingnmbgmaaDoor

namespace Go.Afx
open Go.RowKit

def lowD (n : Nat) : List Nat := if _h : n = 0 then [] else (n % 10) :: lowD (n / 10)
termination_by n
decreasing_by omega
theorem lowD_zero : lowD 0 = [] := by rw [lowD]; rfl
theorem lowD_pos {n : Nat} (h : 0 < n) : lowD n = (n % 10) :: lowD (n / 10) := by
  rw [lowD, dif_neg (by omega)]
theorem digs_low : ∀ (k n : Nat), n < 10 ^ k → digs n = ((lowD n).map fun x => UInt8.ofNat (48 + x)).reverse := by
  intro k
  induction k with
  | zero => intro n h; obtain rfl : n = 0 := by simpa using h
            rw [digs_zero, lowD_zero]; rfl
  | succ k ih =>
    intro n h
    rcases Nat.eq_zero_or_pos n with rfl | hp
    · rw [digs_zero, lowD_zero]; rfl
    · rw [digs_pos hp, lowD_pos hp, ih (n / 10) (by rw [Nat.pow_succ] at h; omega), List.map_cons, List.reverse_cons]
theorem lowD_len : ∀ (k n : Nat), n < 10 ^ k → (lowD n).length ≤ k := by
  intro k
  induction k with
  | zero => intro n h; obtain rfl : n = 0 := by simpa using h
            rw [lowD_zero]; exact Nat.le_refl _
  | succ k ih =>
    intro n h
    rcases Nat.eq_zero_or_pos n with rfl | hp
    · rw [lowD_zero]; exact Nat.zero_le _
    · rw [lowD_pos hp, List.length_cons]
      have := ih (n / 10) (by rw [Nat.pow_succ] at h; omega)
      omega
theorem lowD_last : ∀ (k n : Nat), n < 10 ^ k → 0 < n → ∃ x, (lowD n).getLast? = some x ∧ x ≠ 0 := by
  intro k
  induction k with
  | zero => intro n h h0; simp at h; omega
  | succ k ih =>
    intro n h h0
    rw [lowD_pos h0]
    rcases Nat.eq_zero_or_pos (n / 10) with hz | hp
    · rw [hz, lowD_zero]
      exact ⟨n % 10, rfl, by omega⟩
    · obtain ⟨x, hx, h1⟩ := ih (n / 10) (by rw [Nat.pow_succ] at h; omega) hp
      refine ⟨x, ?_, h1⟩
      rw [List.getLast?_cons, hx]
      rfl
theorem lowD_digit : ∀ (k n : Nat), n < 10 ^ k → ∀ x ∈ lowD n, x < 10 := by
  intro k
  induction k with
  | zero => intro n h; obtain rfl : n = 0 := by simpa using h
            rw [lowD_zero]; simp
  | succ k ih =>
    intro n h x hx
    rcases Nat.eq_zero_or_pos n with rfl | hp
    · rw [lowD_zero] at hx; simp at hx
    · rw [lowD_pos hp, List.mem_cons] at hx
      rcases hx with rfl | hx
      · omega
      · exact ih (n / 10) (by rw [Nat.pow_succ] at h; omega) x hx
end Go.Afx

namespace Go.Proofs.YthiimingnmbgmaaDoor
open Go.RowKit Go.Afx

/-- digits without noughts above stay as they are -/
theorem trim_any (A : Option Addr) (n c : Nat) (w : World) (hn : n ≤ 1000) (h : n = 0 ∨ ∃ b x, A = some ⟨b, 0, none⟩ ∧ 0 < n ∧ w.cell? ⟨b, n - 1, none⟩ = some (.int .i64 x) ∧ x ≠ 0 ∧ b < w.heap.size) :
    Calls Tryd.prog 62 #[.slice A n c] w fun e w' => e = .returned (.slice A n c) ∧ w = w' := by
  rcases h with rfl | ⟨b, x, rfl, h0, hc, hx, hb⟩
  · go_enter Tryd.func62, Tryd.ntmps62
    go_wp2
    refine wp_loop_rounds 1 ?_
    rw [rounds_succ]
    go_wp2
    go_ret
    exact ⟨rfl, rfl⟩
  · have q : (x == 0) = false := by simpa using hx
    have hd : decide ((0 : Int) < (n : Int)) = true := by simp; omega
    have e1 : ((n : Int) - 1).toNat = n - 1 := by omega
    have i1 : (0 : Int) ≤ (n : Int) - 1 := by omega
    have i2 : (n : Int) - 1 < (n : Int) := by omega
    go_enter Tryd.func62, Tryd.ntmps62
    go_wp2
    refine wp_loop_rounds 1 ?_
    rw [rounds_succ]
    go_wp2
    go_ret
    exact ⟨rfl, rfl⟩
theorem refSign_any (A : Option Addr) (n c : Nat) (w : World) (hn : n ≤ 1000) (h : n = 0 ∨ ∃ b x, A = some ⟨b, 0, none⟩ ∧ 0 < n ∧ w.cell? ⟨b, n - 1, none⟩ = some (.int .i64 x) ∧ x ≠ 0 ∧ b < w.heap.size) :
    Calls Tryd.prog 53 #[.bool false, .slice A n c] w fun e w' => e = .returned (.agg #[.bool false, .slice A n c]) ∧ Below w.heap.size w w' := by
  obtain ⟨w1, Hw1⟩ : ∃ w1, Hid (w1 = w.alloc (.cells #[.bool false, .slice none 0 0] 83)) := ⟨_, rfl⟩
  have hb1 : Below w.heap.size w w1 := by rw [Hw1.out]; exact (Below.refl _ _).alloc (Nat.le_refl _) _
  have Ht := Lib.hid (trim_any A n c w1 hn (by
    rcases h with rfl | ⟨b, x, hA, h0, hc, hx, hb⟩
    · exact .inl rfl
    · exact .inr ⟨b, x, hA, h0, (hb1.cell (p := ⟨b, n - 1, none⟩) hb).trans hc, hx, Nat.lt_of_lt_of_le hb hb1.size⟩))
  rw [Hw1.out] at Ht
  clear h hb1 Hw1 w1
  go_enter Tryd.func53, Tryd.ntmps53
  go_wp2_with (go_at_call 62; refine Ht.out.mono ?_; rintro e w2 ⟨rfl, rfl⟩)
  refine bodyPost_ret (v := .agg #[.bool false, .slice A n c]) (by simp [results, Tryd.results53, go_sem]) rfl ⟨rfl, ?_⟩
  exact (Below.refl _ _).alloc (Nat.le_refl _) _
end Go.Proofs.YthiimingnmbgmaaDoor
