/- Parts of this proof, one behind the other: PrtU, PrtV, PrtT0, PrtT, PrtW, PrtX. -/
import Derived.Test.YtmgldjpdhpopnaaGreatDoorPp33
import Derived.Test.YtmgldjpdhpopnaaGreatDoorPp29
import Derived.Test.YtmgldjpdhpopnaaGreatDoorPp30
import Derived.Deep.AppendSrc
import Derived.Laws.DeepStrings4
import Derived.Laws.IdiomStrings
set_option maxRecDepth 1000000
set_option maxHeartbeats 40000000
namespace Go.Proofs.YtmgldjpdhpopnaaGreatDoor
open Go.RowKit Go.Afx
theorem Six.below {w w' : World} {b o : Nat} {e : Ex} {A : Option Addr} {m c : Nat} (h : Six w b o e A m c) (hb : b < w.heap.size) (hw : Below w.heap.size w w') : Six w' b o e A m c := by
 obtain ⟨h0, h1, h2, h3, h4, h5⟩ := h
 exact ⟨(hw.cell (p := ⟨b, o, none⟩) hb).trans h0, (hw.cell (p := ⟨b, o + 1, none⟩) hb).trans h1, (hw.cell (p := ⟨b, o + 2, none⟩) hb).trans h2, (hw.cell (p := ⟨b, o + 3, none⟩) hb).trans h3, (hw.cell (p := ⟨b, o + 4, none⟩) hb).trans h4, (hw.cell (p := ⟨b, o + 5, none⟩) hb).trans h5⟩
theorem newline_any : ∀ (d : Nat) (F : Nat → Prop) (e : Ex) (row : List Value) (w : World), ExAt F d w row e →
  Calls Tryz.prog 41 #[.agg row.toArray] w fun x w' => x = .returned (.bool (nlE d e)) ∧ Below w.heap.size w w' := by
 intro d
 induction d with
 | zero => intro F e row w h; exact h.elim
 | succ d ih =>
  intro F e row w h
  obtain ⟨op, n, s, name, src, args⟩ := e
  obtain ⟨hop, _, hsz, _⟩ := h.open_
  have hsz : s.size ≤ 9223372036854775807 := hsz
  obtain ⟨A, c, rfl, hc1, hc2, hat⟩ := args_at h
  obtain ⟨w1, Hw1⟩ : ∃ w1, Hid (w1 = w.alloc (.cells #[.int .i64 op, .int .i64 n, .string s, .string name, .string src, .slice A args.length c] 32)) := ⟨_, rfl⟩
  have hb1 : Below w.heap.size w w1 := by rw [Hw1.out]; exact (Below.refl _ _).alloc (Nat.le_refl _) _
  have hk1 : IsBlk w1 w.heap.size 32 #[.int .i64 op, .int .i64 n, .string s, .string name, .string src, .slice A args.length c] := by rw [Hw1.out]; exact IsBlk.laid _ _ _
  have Hx := Lhd (fun W (hW : Below w1.heap.size w1 W) => box6 (hk1.as_was (hW.block _ hk1.lt)))
  obtain ⟨x0, x1, x2, x3, x4, x5, xl⟩ := Hx.out _ (Below.refl _ _)
  have Hb1 := Lhd hb1
  have hget0 : args ≠ [] → ∃ b o, A = some (⟨b, o, none⟩ : Addr) ∧ b < w.heap.size ∧ ∀ k a, args[k]? = some a → ∃ A2 m2 c2, Six w b (o + k * 6) a A2 m2 c2 ∧ ExAt F d w (rowOf a A2 m2 c2) a := fun hne => by
   obtain ⟨b, o, hA, _, hbl, hg⟩ := hat hne
   exact ⟨b, o, hA, hbl, hg⟩
  have Hget := Lhd hget0
  have hnl := nl_op (d := d) (op := op) (n := n) (s := s) (name := name) (src := src) (args := args)
  generalize nlE (d + 1) (.mk op n s name src args) = fin at *
  have Hnl := Lhd hnl
  clear hnl h hat hb1 hk1 hop hget0
  have hn : args.length ≤ 9223372036854775807 := by omega
  go_enter Tryz.func41, Tryz.ntmps41
  go_upto_region 1 with (fail)
  rw [← Hw1.out]
  go_wp2
  go_loopw [3] (fun i wr => ∃ k : Nat, k ≤ s.size ∧ i = .int .i64 k ∧ Hid ((s.data.toList.take k).any (· == 10) = false) ∧ w1 = wr) (fun i _ => s.size - (intOf i).toNat)
  case atStart => exact ⟨0, Nat.zero_le _, rfl, Lhd (by simp), rfl⟩
  case round =>
   obtain ⟨k, hk, rfl, HS, rfl⟩ := hrel
   rcases Nat.lt_or_ge k s.size with hlt | hge
   ·rcases Classical.em (op = 2) with h2 | h2
    ·have q2 : (op == 2) = true := by simp [h2]
     have hg : s[k]'hlt = s.data.toList[k]'hlt := rfl
     have hlen : k < s.data.toList.length := hlt
     have Ht := Lhd (List.take_succ_eq_append_getElem hlen)
     rcases Classical.em (s.data.toList[k]'hlt = 10) with h9 | h9
     ·have q9 : (((s[k]'hlt).toNat : Int) == 10) = true := by rw [hg, h9]; rfl
      have H9 := Lhd h9
      have Hop := Lhd h2
      clear h9 hg h2
      go_wp2
      go_ret
      refine ⟨ret_b ?_, Hb1.out⟩
      rw [Hnl.out]
      have hm : s.data.toList.any (· == 10) = true := List.any_eq_true.2 ⟨s.data.toList[k]'hlt, List.getElem_mem _, by rw [H9.out]; rfl⟩
      rw [hm, decide_eq_true Hop.out]
      rfl
     ·have q9 : (((s[k]'hlt).toNat : Int) == 10) = false := by
       rw [hg]
       simp only [beq_eq_false_iff_ne, ne_eq]
       intro h
       exact h9 (UInt8.toNat_inj.1 (by show _ = (10 : Nat); omega))
      have H9 := Lhd h9
      clear h9 hg h2
      go_wp2
      go_roundw
      case rel =>
       refine ⟨k + 1, by omega, by go_num, Lhd ?_, trivial⟩
       rw [Ht.out, List.any_append, HS.out]
       have h9 := H9.out
       generalize s.data.toList[k] = x at h9 ⊢
       simp [h9]
      case measure => simp [intOf]; omega
    ·have q2 : (op == 2) = false := by simp [h2]
     have Hno : Hid ((decide (op = 2) && s.data.toList.any (· == 10)) = false) := Lhd (by rw [decide_eq_false h2]; rfl)
     clear h2
     go_wp2
     go_loopw [4] (fun i wr => ∃ k : Nat, k ≤ args.length ∧ i = .int .i64 k ∧ Hid ((args.take k).any (nlE d) = false) ∧ Below w1.heap.size w1 wr) (fun i _ => args.length - (intOf i).toNat)
     case atStart => exact ⟨0, Nat.zero_le _, rfl, Lhd (by simp), Below.refl _ _⟩
     case round =>
      obtain ⟨k, hk, rfl, HA, hW⟩ := hrel
      obtain ⟨y0, y1, y2, y3, y4, y5, yl⟩ := Hx.out _ hW
      rcases Nat.lt_or_ge k args.length with hlt | hge
      ·obtain ⟨a, ha⟩ : ∃ a, args[k]? = some a := ⟨args[k]'hlt, List.getElem?_eq_getElem hlt⟩
       obtain ⟨b, o, rfl, hbl, hget⟩ := Hget.out (by intro e; rw [e] at hlt; simp at hlt)
       obtain ⟨A2, m2, c2, hS, hxa⟩ := hget k a ha
       have hall := Hb1.out.trans (hW.mono Hb1.out.size)
       obtain ⟨z0, z1, z2, z3, z4, z5⟩ := hS.below hbl hall
       have hbl2 : b < wr.heap.size := Nat.lt_of_lt_of_le hbl hall.size
       have Hc := Lhd (ih F a _ wr (hxa.below hall))
       have Ha := Lhd ha
       have HW := Lhd hW
       clear hS hxa hall hget ha hW
       generalize hq : nlE d a = q at *
       have Hq := Lhd hq
       clear hq
       cases q
       ·go_wp2_with (go_at_call 41; refine Hc.out.mono ?_; rintro x w3 ⟨rfl, hb3⟩)
        go_roundw
        case rel =>
         refine ⟨k + 1, by omega, by go_num, Lhd ?_, HW.out.trans (hb3.mono HW.out.size)⟩
         obtain ⟨hk2, e2⟩ := List.getElem?_eq_some_iff.1 Ha.out
         rw [List.take_succ_eq_append_getElem hk2, List.any_append, HA.out, e2]
         simp [Hq.out]
        case measure => simp [intOf]; omega
       ·go_wp2_with (go_at_call 41; refine Hc.out.mono ?_; rintro x w3 ⟨rfl, hb3⟩)
        go_ret
        refine ⟨ret_b ?_, Hb1.out.trans ((HW.out.trans (hb3.mono HW.out.size)).mono Hb1.out.size)⟩
        rw [Hnl.out]
        have hm : args.any (nlE d) = true := List.any_eq_true.2 ⟨a, List.mem_of_getElem? Ha.out, Hq.out⟩
        rw [hm, Bool.or_true]
      ·have HW := Lhd hW
       have HB := Lhd hge
       clear hW
       go_wp2
       go_ret
       refine ⟨ret_b ?_, Hb1.out.trans (HW.out.mono Hb1.out.size)⟩
       rw [Hnl.out, Hno.out]
       have h := HA.out
       rw [List.take_of_length_le HB.out] at h
       rw [h, Bool.or_false]
   ·have Hno : Hid ((decide (op = 2) && s.data.toList.any (· == 10)) = false) := Lhd (by
     have h := HS.out
     rw [List.take_of_length_le hge] at h
     rw [h, Bool.and_false])
    go_wp2
    go_loopw [4] (fun i wr => ∃ k : Nat, k ≤ args.length ∧ i = .int .i64 k ∧ Hid ((args.take k).any (nlE d) = false) ∧ Below w1.heap.size w1 wr) (fun i _ => args.length - (intOf i).toNat)
    case atStart => exact ⟨0, Nat.zero_le _, rfl, Lhd (by simp), Below.refl _ _⟩
    case round =>
     obtain ⟨k, hk, rfl, HA, hW⟩ := hrel
     obtain ⟨y0, y1, y2, y3, y4, y5, yl⟩ := Hx.out _ hW
     rcases Nat.lt_or_ge k args.length with hlt | hge
     ·obtain ⟨a, ha⟩ : ∃ a, args[k]? = some a := ⟨args[k]'hlt, List.getElem?_eq_getElem hlt⟩
      obtain ⟨b, o, rfl, hbl, hget⟩ := Hget.out (by intro e; rw [e] at hlt; simp at hlt)
      obtain ⟨A2, m2, c2, hS, hxa⟩ := hget k a ha
      have hall := Hb1.out.trans (hW.mono Hb1.out.size)
      obtain ⟨z0, z1, z2, z3, z4, z5⟩ := hS.below hbl hall
      have hbl2 : b < wr.heap.size := Nat.lt_of_lt_of_le hbl hall.size
      have Hc := Lhd (ih F a _ wr (hxa.below hall))
      have Ha := Lhd ha
      have HW := Lhd hW
      clear hS hxa hall hget ha hW
      generalize hq : nlE d a = q at *
      have Hq := Lhd hq
      clear hq
      cases q
      ·go_wp2_with (go_at_call 41; refine Hc.out.mono ?_; rintro x w3 ⟨rfl, hb3⟩)
       go_roundw
       case rel =>
        refine ⟨k + 1, by omega, by go_num, Lhd ?_, HW.out.trans (hb3.mono HW.out.size)⟩
        obtain ⟨hk2, e2⟩ := List.getElem?_eq_some_iff.1 Ha.out
        rw [List.take_succ_eq_append_getElem hk2, List.any_append, HA.out, e2]
        simp [Hq.out]
       case measure => simp [intOf]; omega
      ·go_wp2_with (go_at_call 41; refine Hc.out.mono ?_; rintro x w3 ⟨rfl, hb3⟩)
       go_ret
       refine ⟨ret_b ?_, Hb1.out.trans ((HW.out.trans (hb3.mono HW.out.size)).mono Hb1.out.size)⟩
       rw [Hnl.out]
       have hm : args.any (nlE d) = true := List.any_eq_true.2 ⟨a, List.mem_of_getElem? Ha.out, Hq.out⟩
       rw [hm, Bool.or_true]
     ·have HW := Lhd hW
      have HB := Lhd hge
      clear hW
      go_wp2
      go_ret
      refine ⟨ret_b ?_, Hb1.out.trans (HW.out.mono Hb1.out.size)⟩
      rw [Hnl.out, Hno.out]
      have h := HA.out
      rw [List.take_of_length_le HB.out] at h
      rw [h, Bool.or_false]
theorem told_no (want : ByteArray) (w : World) : Calls Tryz.prog 18 #[.string ⟨#[]⟩, .int .i64 1, .bool false, .string want] w fun x w' => x = .returned (.bool true) ∧ w = w' := by
 go_enter Tryz.func18, Tryz.ntmps18
 go_wp2
 go_ret
 exact ⟨rfl, rfl⟩
theorem told_long (want : ByteArray) (w : World) (h : 8000 < want.size) : Calls Tryz.prog 18 #[.string ⟨#[]⟩, .int .i64 5, .bool true, .string want] w fun x w' => x = .returned (.bool true) ∧ w = w' := by
 have hd : decide ((8000 : Int) < (want.size : Int)) = true := by simp; omega
 clear h
 go_enter Tryz.func18, Tryz.ntmps18
 go_wp2
 go_ret
 exact ⟨rfl, rfl⟩
theorem told_yes (want : ByteArray) (w : World) (h : ¬ 8000 < want.size) : Calls Tryz.prog 18 #[.string want, .int .i64 0, .bool true, .string want] w fun x w' => x = .returned (.bool true) ∧ w = w' := by
 have hd : decide ((8000 : Int) < (want.size : Int)) = false := by simp; omega
 clear h
 go_enter Tryz.func18, Tryz.ntmps18
 go_wp2
 go_ret
 exact ⟨rfl, rfl⟩
theorem arr_size (l : List UInt8) : (⟨l.toArray⟩ : ByteArray).size = l.length := by
 show l.toArray.size = _
 simp
theorem told_any (d : Nat) (e : Ex) (w : World) : Calls Tryz.prog 18 #[.string ⟨(exprS d e).1.toArray⟩, .int .i64 (exprS d e).2, .bool (rightE d e && !nlE d e), .string (if (rightE d e && !nlE d e) = true then ⟨(txtE d e).toArray⟩ else ⟨#[]⟩)] w fun x w' => x = .returned (.bool true) ∧ w = w' := by
 unfold exprS printS
 cases rightE d e
 ·exact told_no _ w
 ·cases nlE d e
  ·by_cases h : 8000 < (txtE d e).length
   ·have hs : 8000 < (⟨(txtE d e).toArray⟩ : ByteArray).size := by rw [arr_size]; exact h
    have hr := told_long _ w hs
    simpa [h] using hr
   ·have hs : ¬ 8000 < (⟨(txtE d e).toArray⟩ : ByteArray).size := by rw [arr_size]; exact h
    have hr := told_yes _ w hs
    simpa [h] using hr
  ·exact told_no _ w
end Go.Proofs.YtmgldjpdhpopnaaGreatDoor
namespace Go.Afx
open Go.RowKit
def lowD (n : Nat) : List Nat := if _h : n = 0 then [] else (n % 10) :: lowD (n / 10)
termination_by n
decreasing_by omega
theorem lowD_zero : lowD 0 = [] := by rw [lowD]; rfl
theorem lowD_pos {n : Nat} (h : 0 < n) : lowD n = (n % 10) :: lowD (n / 10) := by
 rw [lowD, dif_neg (by omega)]
theorem digs_low : ∀ (k n : Nat), n < 10 ^ k → digs n = ((lowD n).map fun x => UInt8.ofNat (48 + x)).reverse := by
  intro k
  induction k with
  | zero => intro n h; obtain rfl : n = 0 := by simpa using h
            rw [digs_zero, lowD_zero]; rfl
  | succ k ih =>
    intro n h
    rcases Nat.eq_zero_or_pos n with rfl | hp
    · rw [digs_zero, lowD_zero]; rfl
    · rw [digs_pos hp, lowD_pos hp, ih (n / 10) (by rw [Nat.pow_succ] at h; omega), List.map_cons, List.reverse_cons]
theorem lowD_len : ∀ (k n : Nat), n < 10 ^ k → (lowD n).length ≤ k := by
  intro k
  induction k with
  | zero => intro n h; obtain rfl : n = 0 := by simpa using h
            rw [lowD_zero]; exact Nat.le_refl _
  | succ k ih =>
    intro n h
    rcases Nat.eq_zero_or_pos n with rfl | hp
    · rw [lowD_zero]; exact Nat.zero_le _
    · rw [lowD_pos hp, List.length_cons]
      have := ih (n / 10) (by rw [Nat.pow_succ] at h; omega)
      omega
theorem lowD_last : ∀ (k n : Nat), n < 10 ^ k → 0 < n → ∃ x, (lowD n).getLast? = some x ∧ x ≠ 0 := by
 intro k
 induction k with
 | zero => intro n h h0; simp at h; omega
 | succ k ih =>
  intro n h h0
  rw [lowD_pos h0]
  rcases Nat.eq_zero_or_pos (n / 10) with hz | hp
  ·rw [hz, lowD_zero]
   exact ⟨n % 10, rfl, by omega⟩
  ·obtain ⟨x, hx, h1⟩ := ih (n / 10) (by rw [Nat.pow_succ] at h; omega) hp
   refine ⟨x, ?_, h1⟩
   rw [List.getLast?_cons, hx]
   rfl
theorem lowD_digit : ∀ (k n : Nat), n < 10 ^ k → ∀ x ∈ lowD n, x < 10 := by
  intro k
  induction k with
  | zero => intro n h; obtain rfl : n = 0 := by simpa using h
            rw [lowD_zero]; simp
  | succ k ih =>
    intro n h x hx
    rcases Nat.eq_zero_or_pos n with rfl | hp
    · rw [lowD_zero] at hx; simp at hx
    · rw [lowD_pos hp, List.mem_cons] at hx
      rcases hx with rfl | hx
      · omega
      · exact ih (n / 10) (by rw [Nat.pow_succ] at h; omega) x hx
end Go.Afx
namespace Go.Proofs.YtmgldjpdhpopnaaGreatDoor
open Go.RowKit Go.Afx
theorem trim_any (A : Option Addr) (n c : Nat) (w : World) (hn : n ≤ 1000) (h : n = 0 ∨ ∃ b x, A = some ⟨b, 0, none⟩ ∧ 0 < n ∧ w.cell? ⟨b, n - 1, none⟩ = some (.int .i64 x) ∧ x ≠ 0 ∧ b < w.heap.size) :
  Calls Tryz.prog 161 #[.slice A n c] w fun e w' => e = .returned (.slice A n c) ∧ w = w' := by
 rcases h with rfl | ⟨b, x, rfl, h0, hc, hx, hb⟩
 ·go_enter Tryz.func161, Tryz.ntmps161
  go_wp2
  refine wp_loop_rounds 1 ?_
  rw [rounds_succ]
  go_wp2
  go_ret
  exact ⟨rfl, rfl⟩
 ·have q : (x == 0) = false := by simpa using hx
  have hd : decide ((0 : Int) < (n : Int)) = true := by simp; omega
  have e1 : ((n : Int) - 1).toNat = n - 1 := by omega
  have i1 : (0 : Int) ≤ (n : Int) - 1 := by omega
  have i2 : (n : Int) - 1 < (n : Int) := by omega
  go_enter Tryz.func161, Tryz.ntmps161
  go_wp2
  refine wp_loop_rounds 1 ?_
  rw [rounds_succ]
  go_wp2
  go_ret
  exact ⟨rfl, rfl⟩
theorem refSign_any (A : Option Addr) (n c : Nat) (w : World) (hn : n ≤ 1000) (h : n = 0 ∨ ∃ b x, A = some ⟨b, 0, none⟩ ∧ 0 < n ∧ w.cell? ⟨b, n - 1, none⟩ = some (.int .i64 x) ∧ x ≠ 0 ∧ b < w.heap.size) :
  Calls Tryz.prog 117 #[.bool false, .slice A n c] w fun e w' => e = .returned (.agg #[.bool false, .slice A n c]) ∧ Below w.heap.size w w' := by
 obtain ⟨w1, Hw1⟩ : ∃ w1, Hid (w1 = w.alloc (.cells #[.bool false, .slice none 0 0] 145)) := ⟨_, rfl⟩
 have hb1 : Below w.heap.size w w1 := by rw [Hw1.out]; exact (Below.refl _ _).alloc (Nat.le_refl _) _
 have Ht := Lhd (trim_any A n c w1 hn (by
  rcases h with rfl | ⟨b, x, hA, h0, hc, hx, hb⟩
  ·exact .inl rfl
  ·exact .inr ⟨b, x, hA, h0, (hb1.cell (p := ⟨b, n - 1, none⟩) hb).trans hc, hx, Nat.lt_of_lt_of_le hb hb1.size⟩))
 rw [Hw1.out] at Ht
 clear h hb1 Hw1 w1
 go_enter Tryz.func117, Tryz.ntmps117
 go_wp2_with (go_at_call 161; refine Ht.out.mono ?_; rintro e w2 ⟨rfl, rfl⟩)
 refine bodyPost_ret (v := .agg #[.bool false, .slice A n c]) (by simp [results, Tryz.results117, go_sem]) rfl ⟨rfl, ?_⟩
 exact (Below.refl _ _).alloc (Nat.le_refl _) _
theorem tyIntW : ElemTy Tryz.prog 26 3 1 8 (.int .i64 0) := ⟨Tryz.underlying26, by kernel_rfl, rfl, by decide⟩
def digC (l : List Nat) : List (List Value) := l.map fun (x : Nat) => [Value.int .i64 (x : Int)]
theorem digC_len {l : List Nat} : ∀ r ∈ digC l, r.length = 1 := by
 intro r hr
 obtain ⟨x, _, rfl⟩ := List.mem_map.1 hr
 rfl
theorem digC_flat (l : List Nat) : (digC l).flatten = l.map fun (x : Nat) => Value.int .i64 (x : Int) := by
 unfold digC
 induction l with
 | nil => rfl
 | cons a r ih => rw [List.map_cons, List.flatten_cons, ih]; rfl
theorem digC_app (l : List Nat) (m : Nat) : digC (l ++ [m % 10]) = digC l ++ [[.int .i64 ((m : Int) % 10)]] := by
 unfold digC
 rw [List.map_append]
 rfl
theorem numOf_any (N : Nat) (hN : N < 10 ^ 19) (w : World) : Calls Tryz.prog 84 #[.int .i64 N] w fun e w' => ∃ A c, e = .returned (.agg #[.bool false, .slice A (lowD N).length c]) ∧ w'.ownsRow (w.heap.size + 1) 3 1 (.slice A (lowD N).length c) (lowD N).length (digC (lowD N)).flatten ∧ Below w.heap.size w w' := by
 have hN2 : N < 10000000000000000000 := hN
 have Hlen := Lhd (lowD_len 19 N hN)
 have hd0 : decide ((N : Int) < 0) = false := by simp
 go_enter Tryz.func84, Tryz.ntmps84
 go_wp2
 go_loopw [3, 4] (fun u v wr => ∃ (m : Nat) (done : List Nat) (A : Option Addr) (c : Nat), m ≤ N ∧ u = .int .u64 m ∧ Hid (lowD N = done ++ lowD m) ∧ v = .slice A done.length c ∧ Hid (wr.ownsRow (w.heap.size + 1) 3 1 (.slice A done.length c) done.length (digC done).flatten) ∧ Hid (Below (w.heap.size + 1) (w.alloc (.cells #[.bool false, .slice none 0 0] 145)) wr)) (fun u _ _ => (intOf u).toNat)
 case atStart => exact ⟨N, [], none, 0, Nat.le_refl _, by first | rfl | go_num, Lhd rfl, rfl, Lhd (World.ownsRow_nil _ _ _ _), Lhd (Below.refl _ _)⟩
 case round =>
  obtain ⟨m, done, A, c, hm, rfl, HL, rfl, HO, HB⟩ := hrel
  have hsz := HB.out.size
  simp at hsz
  have hdl : done.length ≤ 19 := by have := Hlen.out; rw [HL.out, List.length_append] at this; omega
  rcases Nat.eq_zero_or_pos m with rfl | hp
  ·have hdn : done = lowD N := by rw [HL.out, lowD_zero, List.append_nil]
   have hs : done.length = 0 ∨ ∃ b x, A = some ⟨b, 0, none⟩ ∧ 0 < done.length ∧ wr.cell? ⟨b, done.length - 1, none⟩ = some (.int .i64 x) ∧ x ≠ 0 ∧ b < wr.heap.size := by
    rcases Nat.eq_zero_or_pos done.length with hz | hz
    ·exact .inl hz
    ·rcases HO.out.2 with ⟨_, h⟩ | ⟨g, cap, cur, hv, _⟩
     ·exact .inl h
     ·injection hv with e1 e2 e3
      subst e1 e3
      have hN0 : 0 < N := by
       rcases Nat.eq_zero_or_pos N with h | h
       ·rw [hdn, h, lowD_zero] at hz; simp at hz
       ·exact h
      obtain ⟨x, hx, hx0⟩ := lowD_last 19 N hN hN0
      refine .inr ⟨g, (x : Int), rfl, hz, ?_, by omega, (HO.out.lt g rfl).2⟩
      rw [World.ownsRow.cellAt HO.out (done.length - 1) (by omega), digC_flat, List.getElem?_map]
      rw [← hdn, List.getLast?_eq_getElem?] at hx
      rw [hx]
      rfl
   have Hsg := Lhd (refSign_any A done.length c wr (by omega) hs)
   have hk : IsBlk wr w.heap.size 145 #[.bool false, .slice none 0 0] := (IsBlk.laid w _ _).as_was (HB.out.block w.heap.size (by omega))
   have Hk := Lhd hk
   have HN := Lhd hN
   have Hdn := Lhd hdn
   clear hs hsz hk hN hN2 hdn
   go_wp2_with (go_at_call 117; refine Hsg.out.mono ?_)
   rintro e w2 ⟨rfl, hb2⟩
   have hk2 := Hk.out.as_was (hb2.block _ Hk.out.lt)
   have z0 := hk2.cell 0
   have z1 := hk2.cell 1
   have f0 := hk2.frozen 0
   have f1 := hk2.frozen 1
   have zl := hk2.lt
   simp at z0 z1
   have Hb2 := Lhd hb2
   have Hk2 := Lhd hk2
   clear hb2 hk2
   go_wp2
   refine bodyPost_ret (v := .agg #[.bool false, .slice A done.length c]) (by simp [results, Tryz.results84, go_sem, z0, z1]) rfl ⟨A, c, by rw [← Hdn.out], ?_, ?_⟩
   ·rw [← Hdn.out]
    refine own_but (own_below HO.out Hb2.out) (((But.refl (fun i => i = w.heap.size) w2).setCell (p := ⟨w.heap.size, 0, none⟩) (.inl rfl) _).setCell (p := ⟨w.heap.size, 1, none⟩) (.inl rfl) _) (fun i hi e => ?_)
    subst e
    have := (HO.out.lt _ hi).1
    omega
   ·have h1 : Below w.heap.size w wr := ((Below.refl _ _).alloc (Nat.le_refl _) _).trans (HB.out.mono (by simp))
    exact ((h1.trans (Hb2.out.mono h1.size)).setCell (p := ⟨w.heap.size, 0, none⟩) (Nat.le_refl _) _).setCell (p := ⟨w.heap.size, 1, none⟩) (Nat.le_refl _) _
  ·have hnew : RowsAt (wr.alloc (.cells #[.int .i64 ((m : Int) % 10)] 3)) 1 (some ⟨wr.heap.size, 0, none⟩) 1 1 [[.int .i64 ((m : Int) % 10)]] := RowsAt.lit' _ _ 1 (by rfl) rfl (by simp) rfl (by unfold maxLen; omega)
   have hown := own_below HO.out ((Below.refl wr.heap.size wr).alloc (Nat.le_refl _) (.cells #[.int .i64 ((m : Int) % 10)] 3))
   have e0 : decide ((0 : Int) < (m : Int)) = true := by simp; omega
   go_wp2_with (at_builtin; refine wpList_app (s := .tmp 13) (x := .tmp 17) (xs := digC done) rfl rfl tyIntW rfl hown rfl hnew (by intro r hr; simp at hr; subst hr; rfl) (by intro r hr u hu; simp at hr; subst hr; simp at hu; subst hu; rfl) ?_ ?_ ?_ ?_; (unfold maxLen; omega); omega; (simp; omega); intro A3 c3 w3 hown3 hbut3 hf3)
   go_roundw
   case rel =>
    refine ⟨m / 10, done ++ [m % 10], A3, c3, by omega, by go_num, Lhd (by rw [HL.out, lowD_pos hp]; simp), by simp, Lhd ?_, Lhd ?_⟩
    ·rw [digC_app, List.length_append]
     exact hown3
    ·refine HB.out.trans (((Below.refl _ _).alloc hsz _).trans (hbut3.below' (by simp; omega) fun i hi => ?_))
     cases A with
     | none => cases hi
     | some a => exact (HO.out.lt i hi).1
   case measure => simp [intOf]; omega
theorem box2 {w : World} {g : Nat} {T : TypeId} {v0 v1 : Value} (h : IsBlk w g T #[v0, v1]) : w.cell? ⟨g, 0, none⟩ = some v0 ∧ w.cell? ⟨g, 1, none⟩ = some v1 ∧ g < w.heap.size := by
 have h0 := h.cell 0; have h1 := h.cell 1
 simp at h0 h1
 exact ⟨h0, h1, h.lt⟩
def digB (l : List Nat) : List UInt8 := (l.map fun x => UInt8.ofNat (48 + x)).reverse
theorem digB_succ {l : List Nat} {k : Nat} (h : k < l.length) : digB (l.take (k + 1)) = UInt8.ofNat (48 + l[k]'h) :: digB (l.take k) := by
 unfold digB
 rw [List.take_succ_eq_append_getElem h, List.map_append, List.reverse_append]
 rfl
theorem decS_low {N : Nat} (hN : N < 10 ^ 19) (h : 0 < N) : decS (N : Int) = digB (lowD N) := by
 unfold decS
 rw [if_neg (by omega)]
 exact digs_low 19 N hN
theorem refPrint_any (N : Nat) (hN : N < 10 ^ 19) (w : World) : Calls Tryz.prog 42 #[.int .i64 N] w fun e w' => e = .returned (.string ⟨(decS N).toArray⟩) ∧ Below w.heap.size w w' := by
 have Hof := Lhd (fun W => numOf_any N hN W)
 have Hlen := Lhd (lowD_len 19 N hN)
 rcases Nat.eq_zero_or_pos N with rfl | hp
 ·rw [lowD_zero] at Hof
  have Hd := Lhd (show decS ((0 : Nat) : Int) = [48] from rfl)
  go_enter Tryz.func42, Tryz.ntmps42
  go_wp2_with (go_at_call 84; refine (Hof.out _).mono ?_)
  rintro e w2 ⟨A, c, rfl, _, hb2⟩
  have Hb2 := Lhd hb2
  clear hb2
  go_wp2
  go_ret
  rw [Hd.out]
  exact ⟨rfl, Hb2.out.alloc Hb2.out.size _⟩
 ·have Hd := Lhd (decS_low hN hp)
  have Hdg := Lhd (lowD_digit 19 N hN)
  have hl0 : 0 < (lowD N).length := by rw [lowD_pos hp]; simp
  have Hp := Lhd hp
  clear hp hN
  generalize lowD N = L at *
  generalize decS (N : Int) = fin at *
  have hz : (((L.length : Nat) : Int) == 0) = false := by simp; intro h; rw [h] at hl0; simp at hl0
  have hl19 : L.length ≤ 19 := Hlen.out
  go_enter Tryz.func42, Tryz.ntmps42
  go_wp2_with (go_at_call 84; refine (Hof.out _).mono ?_)
  rintro e w2 ⟨A, c, rfl, hO, hb2⟩
  obtain ⟨w3, Hw3⟩ : ∃ w3, Hid (w3 = w2.alloc (.cells #[.bool false, .slice A L.length c] 145)) := ⟨_, rfl⟩
  have hb3 : Below w2.heap.size w2 w3 := by rw [Hw3.out]; exact (Below.refl _ _).alloc (Nat.le_refl _) _
  have hk3 : IsBlk w3 w2.heap.size 145 #[.bool false, .slice A L.length c] := by rw [Hw3.out]; exact IsBlk.laid _ _ _
  have Hall := Lhd (hb2.trans (hb3.mono hb2.size))
  have HO := Lhd (own_below hO hb3)
  have Hx := Lhd (fun W (hW : Below w3.heap.size w3 W) => box2 (hk3.as_was (hW.block _ hk3.lt)))
  obtain ⟨x0, x1, xl⟩ := Hx.out _ (Below.refl _ _)
  clear hb2 hb3 hk3 hO
  go_upto_region 2 with (fail)
  rw [← Hw3.out]
  go_wp2
  go_loopw [4, 5] (fun s i wr => ∃ (k : Nat) (S : ByteArray), k ≤ L.length ∧ i = .int .i64 k ∧ s = .string S ∧ Hid (S.data.toList = digB (L.take k)) ∧ S.size ≤ k ∧ Below w3.heap.size w3 wr) (fun _ i _ => L.length - (intOf i).toNat)
  case atStart => exact ⟨0, ⟨#[]⟩, Nat.zero_le _, rfl, rfl, Lhd (by simp [digB]), Nat.le_refl _, Below.refl _ _⟩
  case round =>
   obtain ⟨k, S, hk, rfl, rfl, HS, hS, hW⟩ := hrel
   obtain ⟨y0, y1, yl⟩ := Hx.out _ hW
   rcases Nat.lt_or_ge k L.length with hlt | hge
   ·have hO2 := own_below HO.out hW
    have hdg : L[k]'hlt < 10 := Hdg.out _ (List.getElem_mem _)
    have Hsuc := Lhd (digB_succ hlt)
    have hgc : (digC L).flatten[k]? = some (.int .i64 ((L[k]'hlt : Nat) : Int)) := by rw [digC_flat, List.getElem?_map, List.getElem?_eq_getElem hlt]; rfl
    rcases hO2.2 with ⟨_, h0⟩ | ⟨g, cap, cur, hv, _⟩
    ·rw [h0] at hlt; simp at hlt
    ·injection hv with e1 e2 e3
     subst e1 e3
     have hcz := World.ownsRow.cellAt hO2 k (by omega)
     rw [hgc] at hcz
     generalize L[k]'hlt = x at *
     have hgl := (hO2.lt g rfl).2
     have n1 : ¬ 9223372036854775807 < 1 + S.size := by omega
     have HW := Lhd hW
     have hu : ((UInt8.ofNat (48 + x)).toNat : Int) = 48 + (x : Int) := by rw [UInt8.toNat_ofNat']; omega
     have hcv := run_convert_bytes_back (P := Tryz.prog) (wr.alloc (.cells #[.int .u8 (48 + (x : Int))] 5)) 100 9 5 ⟨wr.heap.size, 0, none⟩ 1 [UInt8.ofNat (48 + x)] Tryz.underlying100 Tryz.underlying5 Tryz.underlying9 (fun j hj => by
      obtain rfl : j = 0 := by simpa using hj
      have e : ((⟨wr.heap.size, 0, none⟩ : Addr).add 0) = ⟨wr.heap.size, 0, none⟩ := rfl
      rw [e, (IsBlk.laid _ _ _).cell]
      rw [List.getElem_cons_zero, hu]
      rfl)
     clear hu
     have eb : ([UInt8.ofNat (48 + x)] : List UInt8).toArray.size = 1 := rfl
     obtain ⟨D, hD⟩ : ∃ D : ByteArray, (⟨[UInt8.ofNat (48 + x)].toArray⟩ : ByteArray) = D := ⟨_, rfl⟩
     rw [hD, List.length_singleton] at hcv
     have hDs : D.size = 1 := by rw [← hD]; rfl
     have HD := Lhd hD
     have n1 : ¬ 9223372036854775807 < D.size + S.size := by omega
     clear hW hO2 hgc hD
     go_wp2
     go_roundw
     case rel =>
      refine ⟨k + 1, _, by omega, by go_num, rfl, Lhd ?_, by simp; omega, HW.out.alloc HW.out.size _⟩
      rw [Hsuc.out, ← HS.out, ByteArray.data_append, ← HD.out]
      simp
     case measure => simp [intOf]; omega
   ·obtain rfl : k = L.length := Nat.le_antisymm hk hge
    have HW := Lhd (Hall.out.trans (hW.mono Hall.out.size))
    clear hW
    go_wp2
    go_ret
    refine ⟨ret_str ?_, HW.out⟩
    have h := HS.out
    rw [List.take_of_length_le (Nat.le_refl _)] at h
    rw [Hd.out]
    exact Array.ext' h
end Go.Proofs.YtmgldjpdhpopnaaGreatDoor
