/- Parts of this proof, one behind the other: PrtS, PrtR. -/
import Derived.Test.YthiimingnmbgmaaDoorPe36
import Derived.Test.YthiimingnmbgmaaDoorPe30
import Derived.Test.YthiimingnmbgmaaDoorPe29
import Derived.Laws.DeepStrings4
namespace Go.Proofs.YthiimingnmbgmaaDoor
open Go.RowKit Go.Afx

/-- the document's text of an expression -/
def RefC (F : Nat → Prop) (d : Nat) : Prop := ∀ (e : Ex) (row : List Value) (w : World), ExAt F d w row e → builtE d e = true → (txtE d e).length ≤ 1000000000 →
  Calls Tryd.prog 10 #[.agg row.toArray] w fun e' w' => e' = .returned (.string ⟨(txtE d e).toArray⟩) ∧ Below w.heap.size w w'
set_option maxHeartbeats 1000000 in
theorem in_any (F : Nat → Prop) (d : Nat) (hE : RefC F d) (e : Ex) (row : List Value) (least : Int) (w : World) (hx : ExAt F d w row e) (hb : builtE d e = true) (hlen : (txtE d e).length ≤ 1000000000) :
    Calls Tryd.prog 23 #[.agg row.toArray, .int .i64 least] w fun e' w' => e' = .returned (.string ⟨(opnd least e.op (txtE d e)).toArray⟩) ∧ Below w.heap.size w w' := by
  obtain ⟨o1, o2⟩ := built_op hb
  obtain ⟨A, m, c, hrow⟩ := ex_row hx
  have Hsg := Lib.hid (fun W => bind_any e.op W o1 o2)
  obtain ⟨w1, Hw1⟩ : ∃ w1, Hid (w1 = w.alloc (.cells row.toArray 35)) := ⟨_, rfl⟩
  have hb1 : Below w.heap.size w w1 := by rw [Hw1.out]; exact (Below.refl _ _).alloc (Nat.le_refl _) _
  have hk1 : IsBlk w1 w.heap.size 35 row.toArray := by rw [Hw1.out]; exact IsBlk.laid _ _ _
  have Hx := Lib.hid (fun W (hW : Below w1.heap.size w1 W) => (show IsBlk W w.heap.size 35 row.toArray from hk1.as_was (hW.block _ hk1.lt)))
  have Hee := Lib.hid (fun W (hW : Below w1.heap.size w1 W) => hE e row W (hx.below (hb1.trans (hW.mono hb1.size))) hb hlen)
  have Hop := Lib.hid (show opnd least e.op (txtE d e) = if lvlZ e.op < least then [40] ++ txtE d e ++ [41] else txtE d e from rfl)
  generalize opnd least e.op (txtE d e) = fin at *
  obtain ⟨T, hT⟩ : ∃ T : ByteArray, (⟨(txtE d e).toArray⟩ : ByteArray) = T := ⟨_, rfl⟩
  have hTs : T.size = (txtE d e).length := by rw [← hT]; show (txtE d e).toArray.size = _; simp
  have HT := Lib.hid (show T.data.toList = txtE d e from by rw [← hT])
  have n1 : ¬ 9223372036854775807 < 1 + T.size := by omega
  have n2 : ¬ 9223372036854775807 < 1 + T.size + 1 := by omega
  rw [hT] at Hee
  subst hrow
  have Hb1 := Lib.hid hb1
  clear hE hx hb hk1 hb1 hT hTs hlen
  obtain ⟨x0, x1, x2, x3, x4, x5, xl⟩ := box6 (Hx.out _ (Below.refl _ _))
  rcases Classical.em (lvlZ e.op < least) with hc | hc
  · have hdc : decide (lvlZ e.op < least) = true := by simp [hc]
    have Hop2 := Lib.hid (Hop.out.trans (if_pos hc))
    clear Hop hc
    go_enter Tryd.func23, Tryd.ntmps23
    go_upto_region 1 with (fail)
    rw [← Hw1.out]
    go_wp2_with (first | (go_at_call 19; refine (Hsg.out _).mono ?_; rintro x w2 ⟨rfl, hb2⟩; obtain ⟨y0, y1, y2, y3, y4, y5, yl⟩ := box6 (Hx.out _ hb2)) | (go_at_call 10; refine (Hee.out _ hb2).mono ?_; rintro x w3 ⟨rfl, hb3⟩))
    go_ret
    rw [Hop2.out]
    exact ⟨ret_str (by apply Array.ext'; simp [ByteArray.data_append, HT.out]), Hb1.out.trans ((hb2.mono Hb1.out.size).trans (hb3.mono (Nat.le_trans Hb1.out.size hb2.size)))⟩
  · have hdc : decide (lvlZ e.op < least) = false := by simp [hc]
    have Hop2 := Lib.hid (Hop.out.trans (if_neg hc))
    clear Hop hc
    go_enter Tryd.func23, Tryd.ntmps23
    go_upto_region 1 with (fail)
    rw [← Hw1.out]
    go_wp2_with (first | (go_at_call 19; refine (Hsg.out _).mono ?_; rintro x w2 ⟨rfl, hb2⟩; obtain ⟨y0, y1, y2, y3, y4, y5, yl⟩ := box6 (Hx.out _ hb2)) | (go_at_call 10; refine (Hee.out _ hb2).mono ?_; rintro x w3 ⟨rfl, hb3⟩))
    go_ret
    rw [Hop2.out]
    exact ⟨ret_str (by apply Array.ext'; simp [HT.out]), Hb1.out.trans ((hb2.mono Hb1.out.size).trans (hb3.mono (Nat.le_trans Hb1.out.size hb2.size)))⟩
set_option maxHeartbeats 1000000 in
theorem rrows_any (F : Nat → Prop) (d : Nat) (hE : RefC F d) (e : Ex) (row : List Value) (name src : ByteArray) (w : World) (hx : ExAt F d w row e) (hb : builtE d e = true) (hlen : (txtE d e).length ≤ 1000000000) (hn : name.size ≤ 1000000) (hs : src.size ≤ 1000000) :
    Calls Tryd.prog 22 #[.string name, .string src, .agg row.toArray] w fun e' w' => e' = .returned (.string ⟨(rowsT name src e.op e.n (txtE d e)).toArray⟩) ∧ Below w.heap.size w w' := by
  obtain ⟨A, m, c, hrow⟩ := ex_row hx
  obtain ⟨w1, Hw1⟩ : ∃ w1, Hid (w1 = w.alloc (.cells row.toArray 35)) := ⟨_, rfl⟩
  have hb1 : Below w.heap.size w w1 := by rw [Hw1.out]; exact (Below.refl _ _).alloc (Nat.le_refl _) _
  have hk1 : IsBlk w1 w.heap.size 35 row.toArray := by rw [Hw1.out]; exact IsBlk.laid _ _ _
  have Hee := Lib.hid (hE e row w1 (hx.below hb1) hb hlen)
  obtain ⟨T, hT⟩ : ∃ T : ByteArray, (⟨(txtE d e).toArray⟩ : ByteArray) = T := ⟨_, rfl⟩
  have hTs : T.size = (txtE d e).length := by rw [← hT]; show (txtE d e).toArray.size = _; simp
  have HT := Lib.hid (show T.data.toList = txtE d e from by rw [← hT])
  have n1 : ¬ 9223372036854775807 < name.size + 4 := by omega
  have n2 : ¬ 9223372036854775807 < name.size + 4 + src.size := by omega
  have n3 : ¬ 9223372036854775807 < name.size + 4 + src.size + 7 := by omega
  have n4 : ¬ 9223372036854775807 < name.size + 4 + src.size + 7 + T.size := by omega
  rw [hT] at Hee
  subst hrow
  have Hb1 := Lib.hid hb1
  obtain ⟨x0, x1, x2, x3, x4, x5, xl⟩ := box6 hk1
  clear hE hx hb hk1 hb1 hT hTs hlen
  have hq : rowsT name src e.op e.n (txtE d e) = name.data.toList ++ [32, 105, 110, 32] ++ src.data.toList ++ (if e.op = 3 ∧ e.n = 1 then [] else [32, 119, 104, 101, 114, 101, 32] ++ txtE d e) := rfl
  generalize rowsT name src e.op e.n (txtE d e) = fin at *
  have Hq := Lib.hid hq
  clear hq
  rcases Classical.em (e.op = 3) with h3 | h3
  · have q3 : (e.op == 3) = true := by simp [h3]
    rcases Classical.em (e.n = 1) with h1 | h1
    · have q1 : (e.n == 1) = true := by simp [h1]
      have Hq2 := Lib.hid (by have h := Hq.out; rw [if_pos ⟨h3, h1⟩] at h; exact h)
      clear Hq h3 h1
      go_enter Tryd.func22, Tryd.ntmps22
      go_upto_region 1 with (fail)
      rw [← Hw1.out]
      go_wp2
      go_ret
      rw [Hq2.out]
      exact ⟨ret_str (by simp [ByteArray.data_append]), Hb1.out⟩
    · have q1 : (e.n == 1) = false := by simp [h1]
      have Hq2 := Lib.hid (by have h := Hq.out; rw [if_neg (fun x => h1 x.2)] at h; exact h)
      clear Hq h3 h1
      go_enter Tryd.func22, Tryd.ntmps22
      go_upto_region 1 with (fail)
      rw [← Hw1.out]
      go_wp2_with (go_at_call 10; refine Hee.out.mono ?_; rintro x w3 ⟨rfl, hb3⟩)
      go_ret
      rw [Hq2.out]
      exact ⟨ret_str (by apply Array.ext'; simp [ByteArray.data_append, HT.out]), Hb1.out.trans (hb3.mono Hb1.out.size)⟩
  · have q3 : (e.op == 3) = false := by simp [h3]
    have Hq2 := Lib.hid (by have h := Hq.out; rw [if_neg (fun x => h3 x.1)] at h; exact h)
    clear Hq h3
    go_enter Tryd.func22, Tryd.ntmps22
    go_upto_region 1 with (fail)
    rw [← Hw1.out]
    go_wp2_with (go_at_call 10; refine Hee.out.mono ?_; rintro x w3 ⟨rfl, hb3⟩)
    go_ret
    rw [Hq2.out]
    exact ⟨ret_str (by apply Array.ext'; simp [ByteArray.data_append, HT.out]), Hb1.out.trans (hb3.mono Hb1.out.size)⟩
end Go.Proofs.YthiimingnmbgmaaDoor

namespace Go.Proofs.YthiimingnmbgmaaDoor
open Go.RowKit Go.Afx

theorem refBool_any (b : Bool) (w : World) : Calls Tryd.prog 21 #[.agg #[.int .i64 3, .int .i64 (if b then 1 else 0), .string ⟨#[]⟩]] w fun e w' => e = .returned (.string ⟨(if b then trueL else falseL).toArray⟩) ∧ Below w.heap.size w w' := by
  cases b
  all_goals
    go_enter Tryd.func21, Tryd.ntmps21
    go_wp2
    go_ret
    exact ⟨rfl, (Below.refl _ _).alloc (Nat.le_refl _) _⟩
theorem dbl_take {l : List UInt8} {k : Nat} (h : k < l.length) : dbl (l.take (k + 1)) = dbl (l.take k) ++ (if l[k]'h = 39 then [39, 39] else [l[k]'h]) := by
  unfold dbl
  rw [List.take_succ_eq_append_getElem h, List.flatMap_append, List.flatMap_cons, List.flatMap_nil, List.append_nil]
theorem cut_one (s : ByteArray) (k : Nat) (h : k < s.size) : (s.extract k (k + 1)).data.toList = [s.data.toList[k]'h] := by
  have e : (s.extract k (k + 1)).data = s.data.extract k (k + 1) := by simp [ByteArray.data_extract]
  rw [e]
  apply List.ext_getElem?
  intro i
  rcases i with _ | i
  · have hk : k < s.data.size := h
    simp
  · simp
    omega
set_option maxHeartbeats 2000000 in
theorem refText_any (s : ByteArray) (w : World) (hs : s.size ≤ 1000000) : Calls Tryd.prog 21 #[.agg #[.int .i64 2, .int .i64 0, .string s]] w fun e w' => e = .returned (.string ⟨(quoteS s).toArray⟩) ∧ Below w.heap.size w w' := by
  have hx : IsBlk (w.alloc (.cells #[.int .i64 2, .int .i64 0, .string s] 61)) w.heap.size 61 #[.int .i64 2, .int .i64 0, .string s] := IsBlk.laid _ _ _
  obtain ⟨w1, Hw1⟩ : ∃ w1, Hid (w1 = w.alloc (.cells #[.int .i64 2, .int .i64 0, .string s] 61)) := ⟨_, rfl⟩
  rw [← Hw1.out] at hx
  have Hb1 : Hid (Below w.heap.size w w1) := Lib.hid (by rw [Hw1.out]; exact (Below.refl _ _).alloc (Nat.le_refl _) _)
  obtain ⟨x0, x1, x2, xl⟩ := valBox hx
  clear hx
  go_enter Tryd.func21, Tryd.ntmps21
  go_upto_region 1 with (fail)
  rw [← Hw1.out]
  go_wp2
  go_loopw [3, 4] (fun q i wr => ∃ (k : Nat) (S : ByteArray), k ≤ s.size ∧ i = .int .i64 k ∧ q = .string S ∧ Hid (S.data.toList = [39] ++ dbl (s.data.toList.take k)) ∧ S.size ≤ 2 * k + 1 ∧ wr = w1) (fun _ i _ => s.size - (intOf i).toNat)
  case atStart => exact ⟨0, ⟨#[39]⟩, Nat.zero_le _, rfl, rfl, Lib.hid (by simp [dbl]), by decide, rfl⟩
  case round =>
    obtain ⟨k, S, hk, rfl, rfl, HS, hS, rfl⟩ := hrel
    have n1 : ¬ 9223372036854775807 < S.size + (min (k + 1) s.size - k) := by omega
    have n2 : ¬ 9223372036854775807 < S.size + (min (k + 1) s.size - k) + 1 := by omega
    have n3 : ¬ 9223372036854775807 < S.size + 1 := by omega
    rcases Nat.lt_or_ge k s.size with hlt | hge
    · have Hd := Lib.hid (dbl_take (l := s.data.toList) (k := k) hlt)
      have Hc := Lib.hid (cut_one s k hlt)
      have hg : s[k]'hlt = s.data.toList[k]'hlt := rfl
      rcases Classical.em (s.data.toList[k]'hlt = 39) with h9 | h9
      · have q9 : (((s[k]'hlt).toNat : Int) == 39) = true := by rw [hg, h9]; rfl
        have H9 := Lib.hid h9
        clear h9 hg
        go_wp2
        go_roundw
        case rel =>
          refine ⟨k + 1, _, by omega, by go_num, rfl, Lib.hid ?_, by have e1 : (⟨#[39]⟩ : ByteArray).size = 1 := rfl; simp; omega, trivial⟩
          rw [Hd.out, if_pos H9.out]
          have hc := Hc.out
          generalize s.extract k (k + 1) = x at hc ⊢
          simp [ByteArray.data_append, HS.out, hc, H9.out]
        case measure => simp [intOf]; omega
      · have q9 : (((s[k]'hlt).toNat : Int) == 39) = false := by
          rw [hg]
          simp only [beq_eq_false_iff_ne, ne_eq]
          intro h
          exact h9 (UInt8.toNat_inj.1 (by show _ = (39 : Nat); omega))
        have H9 := Lib.hid h9
        clear h9 hg
        go_wp2
        go_roundw
        case rel =>
          refine ⟨k + 1, _, by omega, by go_num, rfl, Lib.hid ?_, by have e1 : (⟨#[39]⟩ : ByteArray).size = 1 := rfl; simp; omega, trivial⟩
          rw [Hd.out, if_neg H9.out]
          have hc := Hc.out
          generalize s.extract k (k + 1) = x at hc ⊢
          simp [ByteArray.data_append, HS.out, hc]
        case measure => simp [intOf]; omega
    · obtain rfl : k = s.size := Nat.le_antisymm hk hge
      go_wp2
      go_ret
      refine ⟨ret_str ?_, Hb1.out⟩
      have e : s.data.toList.take s.size = s.data.toList := List.take_of_length_le (Nat.le_refl _)
      have h := HS.out
      rw [e] at h
      apply Array.ext'
      rw [show (S ++ ⟨#[39]⟩ : ByteArray).data.toList = S.data.toList ++ [39] from by simp [ByteArray.data_append], h]
      simp [quoteS]
end Go.Proofs.YthiimingnmbgmaaDoor
