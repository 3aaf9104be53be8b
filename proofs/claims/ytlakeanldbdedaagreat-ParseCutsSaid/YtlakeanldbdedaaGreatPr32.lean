/- Parts of this proof, one behind the other: SynQ, SynI. -/
import Derived.Test.YtlakeanldbdedaaGreatPr3
import Derived.Lib.RowBridge
import Derived.Sort.KeysCollected
import Derived.Test.YtlakeanldbdedaaGreatPr31
import Derived.Test.YtlakeanldbdedaaGreatShelfS
import Derived.Sort.OwnSorted
import Derived.RangeFuncNested
import Derived.RangeFuncBound
import Derived.RangeFuncCalls
import Derived.RangeFuncLeaves
import Derived.RangeFuncWrites
import Derived.RangeFuncBox
import Derived.Maps.AppendAt
import Derived.Shelf.Abstract
import Derived.Shelf.RegionOpen
import Derived.OwnWalkIn
import Derived.TacticsInMore
import Derived.LoopNIn
import Derived.LoopIn
namespace Go.Afx
open Go.RowKit Go.Proofs

theorem sort_rises (l : List (List UInt8)) : (l.mergeSort fun x y => decide (x ≤ y)).Pairwise (fun x y => x ≤ y) := by
  have tr : ∀ a b c : List UInt8, decide (a ≤ b) = true → decide (b ≤ c) = true → decide (a ≤ c) = true := fun a b c h1 h2 => by simp only [decide_eq_true_eq] at *; exact List.le_trans h1 h2
  have tt : ∀ a b : List UInt8, (decide (a ≤ b) || decide (b ≤ a)) = true := fun a b => by simp only [Bool.or_eq_true, decide_eq_true_eq]; exact List.le_total a b
  exact (List.pairwise_mergeSort tr tt l).imp fun h => by simpa using h

theorem compact_once {ss : List (List UInt8)} (hs : ss.Pairwise (fun x y => x ≤ y)) : (Lib.compact ss).length = ss.length ↔ ss.Nodup := by
  have e : (Lib.compact ss).length = ss.length ↔ ∀ j, j < ss.length → Lib.keeps ss.toArray j = true := by
    unfold Lib.compact Lib.compactUpTo
    rw [List.length_map]
    have h1 := List.length_filter_eq_length_iff (p := Lib.keeps ss.toArray) (l := List.range ss.length)
    rw [List.length_range] at h1
    rw [h1]
    simp
  rw [e]
  have g : ∀ j, j < ss.length → ss.toArray[j]! = ss[j]! := fun j hj => by simp [getElem!_pos, hj]
  constructor
  · intro h
    refine List.pairwise_iff_getElem.2 fun i j hi hj hij he => ?_
    have h1 := h j hj
    simp only [Lib.keeps, decide_eq_true_eq] at h1
    rw [g j hj, g (j - 1) (by omega), getElem!_pos ss j hj, getElem!_pos ss (j - 1) (show j - 1 < ss.length by omega)] at h1
    have h3 : ss[j - 1] ≤ ss[j] := List.pairwise_iff_getElem.1 hs (j - 1) j (by omega) hj (by omega)
    have h2 : ss[i] ≤ ss[j - 1] := by
      by_cases hi' : i = j - 1
      · subst hi'; exact List.le_refl _
      · exact List.pairwise_iff_getElem.1 hs i (j - 1) hi (by omega) (by omega)
    rw [he] at h2
    rcases h1 with h1 | h1
    · omega
    · exact h1 (List.le_antisymm h2 h3)
  · intro h j hj
    simp only [Lib.keeps, decide_eq_true_eq]
    by_cases h0 : j = 0
    · exact .inl h0
    · refine .inr fun he => ?_
      rw [g j hj, g (j - 1) (by omega), getElem!_pos ss j hj, getElem!_pos ss (j - 1) (show j - 1 < ss.length by omega)] at he
      exact List.pairwise_iff_getElem.1 h (j - 1) j (by omega) hj (by omega) he.symm

def bytesL (xs : List ByteArray) : List (List UInt8) := xs.map (·.data.toList)
theorem bytesL_length (xs : List ByteArray) : (bytesL xs).length = xs.length := by simp [bytesL]
theorem data_inj {a b : ByteArray} (h : a.data.toList = b.data.toList) : a = b := by
  cases a; cases b; simp at h; subst h; rfl
theorem bytesL_enc (xs : List ByteArray) : (bytesL xs).map encStr = xs.map Value.string := by simp [bytesL, encStr]
theorem bytesL_nodup (xs : List ByteArray) : (bytesL xs).Nodup ↔ xs.Nodup := by
  unfold bytesL List.Nodup
  rw [List.pairwise_map]
  exact ⟨fun h => h.imp fun h e => h (by rw [e]), fun h => h.imp fun h e => h (data_inj e)⟩
theorem once_sorted (xs : List ByteArray) : (Lib.compact ((bytesL xs).mergeSort fun x y => decide (x ≤ y))).length = xs.length ↔ xs.Nodup := by
  rw [← bytesL_nodup, ← (List.mergeSort_perm (bytesL xs) fun x y => decide (x ≤ y)).nodup_iff, ← compact_once (sort_rises _), List.length_mergeSort, bytesL_length]
end Go.Afx

namespace Go.Proofs.YtlakeanldbdedaaGreat
open Go.RowKit Go.Afx Go.Shelf Go.Sort

theorem take_succ_of' {α : Type} {l : List α} {k : Nat} {x : α} (h : l[k]? = some x) : l.take (k + 1) = l.take k ++ [x] := by
  obtain ⟨hk, rfl⟩ := List.getElem?_eq_some_iff.1 h
  exact List.take_succ_eq_append_getElem hk

section
attribute [local go_sem] Oper.semAt_some

set_option maxRecDepth 100000 in
set_option maxHeartbeats 2000000 in
theorem values1_in (d : Nat) (hd : 1 ≤ d) (l Bs n₀ : Nat) (A : Option Addr) (n c : Nat) (xs : List ByteArray) (J Jx : List ByteArray → World → Prop)
    (hY : ∀ pre x W, J pre W → pre.length < n → YieldAt Fence.wide (d - 1) Tryz.prog l #[.string x] W fun e W' =>
      (e = .returned (.bool true) ∧ J (pre ++ [x]) W' ∧ Below n₀ W W') ∨ (e = .returned (.bool false) ∧ Jx (pre ++ [x]) W'))
    (W : World) (hBs : W.cell? ⟨Bs, 0, none⟩ = some (.slice A n c)) (hL : LsAt (fun b => b < n₀) W 1 SRow A n c xs) (h0 : J [] W) :
    CallsIn Fence.wide d Tryz.prog 126 #[.func (.yield l) #[] #[], .pointer (some ⟨Bs, 0, none⟩)] W fun e W' => (∃ v, e = .returned v) ∧
      ((∃ ys, ys = xs ∧ J ys W') ∨ (∃ pre, True ∧ Jx pre W')) := by
  have hn := hL.n_le
  have Hl := Lib.hid hL.len
  refine callsIn_of_wp Tryz.func126 rfl trivial ?_ rfl
  simp only [Tryz.ntmps126, List.size_toArray, List.length_cons, List.length_nil, Nat.reduceAdd, Nat.reduceSub, Array.replicate_succ, Array.replicate_zero, List.push_toArray, List.append_toArray, List.nil_append, List.cons_append]
  gi_wp2
  gi_loopw [7] (fun i wr => ∃ k : Nat, k ≤ n ∧ i = .int .i64 k ∧ J (xs.take k) wr ∧ Below n₀ W wr) (fun i _ => n - (intOf i).toNat)
  case atStart => exact ⟨0, Nat.zero_le _, rfl, by simpa using h0, Below.refl _ _⟩
  case round =>
    obtain ⟨k, hk, rfl, hJs, hnx⟩ := hrel
    by_cases hlt : k < n
    · obtain ⟨b, o, r, x, rfl, hbl, hb0, hx, hrl, ⟨rfl, hs⟩, hc⟩ := hL.get hlt
      have hcx : wr.cell? ⟨b, o + k, none⟩ = some (.string x) := (hnx.cell (p := ⟨b, o + k, none⟩) hb0).trans (by simpa using hc 0 _ rfl)
      have Hx := Lib.hid (take_succ_of' hx)
      clear hc hx
      obtain ⟨fn, tmps, assign, body, hy, hR⟩ := hY _ x wr hJs (by rw [List.length_take]; omega)
      gi_wp2
      refine hR.mono ?_
      rintro e W3 (⟨rfl, hJ3, hk3⟩ | ⟨rfl, hJx3⟩)
      · gi_wp2
        go_roundw
        case rel => exact ⟨k + 1, by omega, by simp, by rw [Hx.out]; exact hJ3, hnx.trans hk3⟩
        case measure => simp [intOf]; omega
      · gi_wp2
        refine bodyPost_ret (results_none rfl _ _ _) rfl ?_
        exact ⟨⟨_, rfl⟩, .inr ⟨_, trivial, hJx3⟩⟩
    · obtain rfl : k = n := by omega
      gi_wp2
      go_end0
      rw [List.take_of_length_le (by rw [Hl.out]; omega)] at hJs
      exact ⟨⟨_, rfl⟩, .inl ⟨_, rfl, hJs⟩⟩

set_option maxHeartbeats 1000000 in
/-- slices.Values: the slice is boxed, the function value captures the box -/
theorem values_in (d : Nat) (A : Option Addr) (n c : Nat) (w : World) :
    CallsIn Fence.wide d Tryz.prog 93 #[.slice A n c] w fun e w' => e = .returned (.func (.func 126) #[] #[.pointer (some ⟨w.heap.size, 0, none⟩)]) ∧ w' = w.alloc (.cells #[.slice A n c] 56) := by
  refine callsIn_of_wp Tryz.func93 rfl trivial ?_ rfl
  simp only [Tryz.ntmps93, List.size_toArray, List.length_cons, List.length_nil, Nat.reduceAdd, Nat.reduceSub, Array.replicate_succ, Array.replicate_zero, List.push_toArray, List.append_toArray, List.nil_append, List.cons_append]
  gi_wp2
  go_ret
  exact ⟨rfl, rfl⟩

theorem values_stops (d : Nat) (hd : 1 ≤ d) (Bs n₀ : Nat) (A : Option Addr) (n c : Nat) (xs : List ByteArray) (w : World) (hBs : Bs < w.heap.size)
    (hc : w.cell? ⟨Bs, 0, none⟩ = some (.slice A n c)) (hL : LsAt (fun b => b < n₀) w 1 SRow A n c xs) :
    SeqStopsK Fence.wide d Tryz.prog 126 #[.pointer (some ⟨Bs, 0, none⟩)] (fun x : ByteArray => #[Value.string x]) (Below n₀) (fun ys => ys = xs) (fun _ => True) n w := fun l J Jx W hW _ _ hY h0 =>
  values1_in d hd l Bs n₀ A n c xs J Jx hY W ((hW.cell (p := ⟨Bs, 0, none⟩) hBs).trans hc) (hL.below hW) h0

theorem tyStr : ElemTy Tryz.prog 56 9 1 16 (.string ByteArray.empty) := ⟨Tryz.underlying56, by kernel_rfl, rfl, by decide⟩

set_option maxRecDepth 100000 in
set_option maxHeartbeats 2000000 in
/-- slices.AppendSeq(nil, seq), at an iterator that reads memory below the call -/
theorem appendSeq_in (d : Nat) (hd : 3 ≤ d) (g : Nat) (lb : Array Value) (eg : ∀ args w, (callFunc g args).run Tryz.prog w = .ok (.enter g args) w) (xs : List ByteArray) (hN : xs.length ≤ maxLen) (hNb : xs.length * 16 ≤ 140737488355328) (w : World) (n₀ : Nat) (hn₀ : n₀ ≤ w.heap.size)
    (hseq : SeqStopsK Fence.wide (d - 1) Tryz.prog g lb (fun x : ByteArray => #[Value.string x]) (Below n₀) (fun ys => ys = xs) (fun _ => True) xs.length w) :
    CallsIn Fence.wide d Tryz.prog 145 #[.slice none 0 0, .func (.func g) #[] lb] w fun e W' => ∃ v, e = .returned v ∧ W'.ownsRow w.heap.size 9 1 v xs.length (xs.map Value.string) ∧ (v = .slice none 0 0 ↔ xs = []) ∧ Below w.heap.size w W' := by
  have h1 : 1 ≤ d := by omega
  obtain ⟨i0, hi, hz0, hz1, hz2⟩ := tyStr.at_
  refine callsIn_of_wp_marks Tryz.func145 rfl trivial ?_ rfl
  simp only [Tryz.ntmps145, List.size_toArray, List.length_cons, List.length_nil, Nat.reduceAdd, Nat.reduceSub, Array.replicate_succ, Array.replicate_zero, List.push_toArray, List.append_toArray, List.nil_append, List.cons_append]
  gi_wp2
  have bO := Boxed.new w 56 (.slice none 0 0)
  have hB0 : Below w.heap.size w (w.alloc (.cells #[.slice none 0 0] 56)) := (Below.refl _ w).alloc (Nat.le_refl _) _
  refine wpIn_rangeFunc_ownG rfl h1 (gf := g) (lb := lb) rfl trivial eg hseq belowK_t (belowK_b (by simp; omega)) hB0 (fun _ => rfl)
    (fun pre W => (∃ v, Boxed W w.heap.size 56 v ∧ W.ownsRow w.heap.size 9 1 v pre.length (pre.map Value.string) ∧ (v = .slice none 0 0 ↔ pre = [])) ∧ Below w.heap.size w W)
    (fun _ _ _ => False)
    (OwnFrom.and (Own.from (holdsRow_own w.heap.size w.heap.size 56 9 1 (fun pre => pre.length) (fun pre => pre.map Value.string) (fun pre v => v = .slice none 0 0 ↔ pre = [])) _) (ownFrom_below (Nat.le_refl _) (by simp)))
    (fun _ _ _ _ _ hs _ _ => hs)
    ⟨⟨_, bO, World.ownsRow_nil _ _ _ _, by simp⟩, hB0⟩
    (fun x => { tmps := #[.slice none 0 0, .func (.func g) #[] lb, .pointer (some ⟨w.heap.size, 0, none⟩), undef, .slice none 0 0, .string x, .func (.func g) #[] lb, .string x, undef, undef, undef, undef, undef], defers := [] }) ?assign ?body ?done ?stop
  case assign =>
    intro l x W K hK
    gi_wp2
    exact hK
  case body =>
    rintro l pre x W ⟨⟨v, hv, hrow, hnil⟩, hB⟩ hlt
    have hc := hv.cell
    gi_wp2_with (gi_at_builtin; refine wpListIn_append_own _ rfl _ _ 56 rfl w.heap.size 9 i0 (.string ByteArray.empty) 1 16 Tryz.underlying56 hi hz0 hz1 hz2 rfl (by decide) _ _ _ rfl (hrow.alloc _) ⟨W.heap.size, 0, none⟩ 1 1 [.string x] rfl rfl (cell_one_new _ _ _) (by simp [Value.oneCell']) (by omega) (by omega) (by have := hB.size; simp; omega) ?_; intro v' w1 hown' hgrow _; obtain ⟨g', cap', rfl⟩ := ownsRow_succ hown'; obtain ⟨hv1, hv2, hr2, hk2, hb2⟩ := hv.appended (by decide) hrow hB.size (Nat.le_refl _) hown' hgrow; have hc1 := hv1.cell; have hf1 := hv1.frozen)
    exact ⟨hk2.from _, hb2.mono hn₀, ⟨_, hv2, by simpa using hr2, by simp⟩, hB.trans hb2⟩
  case done =>
    rintro D ys W hD rfl ⟨⟨v, hv, hrow, hnil⟩, hB⟩ hK
    have hc := hv.cell
    gi_wp2
    refine ⟨by simp, .inl ⟨_, _, rfl, run_takeDeferred hK, ?_⟩⟩
    exact ⟨_, results_tmp rfl _ _ _, v, rfl, ownsRow_putObj hrow _ hK rfl, hnil, hB.trans (belowK_b (w := w) (Nat.le_refl _) W D _ _ (by simp at hD; omega) hK rfl rfl)⟩
  case stop =>
    rintro D c pre W _ _ h _
    exact h.elim
end

theorem collect_any (g : Nat) (lb : Array Value) (eg : ∀ args w, (callFunc g args).run Tryz.prog w = .ok (.enter g args) w) (xs : List ByteArray) (hN : xs.length ≤ 1000000) (w : World) (n₀ : Nat) (hn₀ : n₀ ≤ w.heap.size)
    (hseq : SeqStopsK Fence.wide 3 Tryz.prog g lb (fun x : ByteArray => #[Value.string x]) (Below n₀) (fun ys => ys = xs) (fun _ => True) xs.length w) :
    Calls Tryz.prog 124 #[.func (.func g) #[] lb] w fun e W' => ∃ v, e = .returned v ∧ W'.ownsRow w.heap.size 9 1 v xs.length (xs.map Value.string) ∧ (v = .slice none 0 0 ↔ xs = []) ∧ Below w.heap.size w W' := by
  have Hc := Lib.hid (callsIn_wide.1 (appendSeq_in 4 (by omega) g lb eg xs (by unfold maxLen; omega) (by omega) w n₀ hn₀ hseq))
  go_enter Tryz.func124, Tryz.ntmps124
  go_wp2_with (go_at_call 145; refine Hc.out.mono ?_; rintro e w1 ⟨v, rfl, hrow, hnil, hb⟩)
  go_ret
  exact ⟨v, rfl, hrow, hnil, hb⟩

def sortedB (xs : List ByteArray) : List (List UInt8) := (bytesL xs).mergeSort fun x y => decide (x ≤ y)

theorem sortS_any (base : Nat) (A : Option Addr) (n c : Nat) (xs : List ByteArray) (w : World) (hn : xs.length = n) (hbig : n ≤ 1000000) (hown : w.ownsRow base 9 1 (.slice A n c) n (xs.map Value.string)) :
    Calls Tryz.prog 125 #[.slice A n c] w fun e w' => e = .returned (.tuple #[]) ∧ w'.ownsRow base 9 1 (.slice A n c) n ((sortedB xs).map encStr) ∧ Below base w w' := by
  subst hn
  rcases hown.2 with ⟨hv, h0⟩ | ⟨g, cap, cur, hv, hbg, hg, hnc, hcm, hcs, htk⟩
  · injection hv with h1 h2 h3
    subst h1 h3
    have hx : xs = [] := List.eq_nil_of_length_eq_zero h0
    subst hx
    refine (AnyM.slices_Sort_string_none Tryz.sortS none 0 w).mono ?_
    rintro e w' ⟨rfl, rfl⟩
    exact ⟨rfl, by rw [show sortedB [] = [] by simp [sortedB, bytesL]]; exact hown, Below.refl _ _⟩
  · injection hv with h1 h2 h3
    subst h1 h3
    have hlt : g < w.heap.size := (Array.getElem?_eq_some_iff.1 hg).1
    have hl : (bytesL xs).length = xs.length := bytesL_length xs
    have htk' : cur.toList.take (bytesL xs).length = (bytesL xs).map encStr := by rw [bytesL_enc, ← htk, hl, Nat.mul_one]
    have hc := AnyM.slices_Sort_string Tryz.sortS g 0 c (bytesL xs) w (holds_of_block hg htk') hlt (by omega)
    rw [hl] at hc
    refine hc.mono ?_
    rintro e w' ⟨rfl, k, os, rfl⟩
    refine ⟨rfl, ?_, ?_⟩
    · have h := ownsRow_sorted (ss := bytesL xs) (ts := sortedB xs) (n := k) (os := os) (List.length_mergeSort _) hbg hg (by omega) hcm hcs
      rw [hl] at h
      exact h
    · exact (But.grown (But.refl (fun k => k = g) w) (grownBy_sorted _) (fun k hk => by cases hk; exact .inl rfl)).below' (by omega) (fun i hi => by subst hi; exact hbg)

theorem sortedS_any (g : Nat) (lb : Array Value) (eg : ∀ args w, (callFunc g args).run Tryz.prog w = .ok (.enter g args) w) (xs : List ByteArray) (hN : xs.length ≤ 1000000) (w : World) (n₀ : Nat) (hn₀ : n₀ ≤ w.heap.size)
    (hseq : SeqStopsK Fence.wide 3 Tryz.prog g lb (fun x : ByteArray => #[Value.string x]) (Below n₀) (fun ys => ys = xs) (fun _ => True) xs.length w) :
    Calls Tryz.prog 92 #[.func (.func g) #[] lb] w fun e W' => ∃ A c, e = .returned (.slice A xs.length c) ∧ W'.ownsRow w.heap.size 9 1 (.slice A xs.length c) xs.length ((sortedB xs).map encStr) ∧ Below w.heap.size w W' := by
  have Hc := Lib.hid (collect_any g lb eg xs hN w n₀ hn₀ hseq)
  go_enter Tryz.func92, Tryz.ntmps92
  go_wp2_with (first | (go_at_call 124; refine Hc.out.mono ?_; rintro e w1 ⟨v, rfl, hrow, hnil, hb⟩; obtain ⟨A, c, rfl, hnc⟩ := ownsRow_form hrow; have Hs := Lib.hid (sortS_any _ A xs.length c xs w1 rfl hN hrow)) | (go_at_call 125; refine Hs.out.mono ?_; rintro e w2 ⟨rfl, hrow2, hb2⟩))
  go_ret
  exact ⟨A, c, rfl, hrow2, hb.trans (hb2.mono (Nat.le_refl _))⟩

theorem grownBy_row {w : World} {g n : Nat} (d : Array (List UInt8)) : w.grownBy (putRow encStr (Sort.ahead w n) g 0 d) (some g) := by
  refine ⟨rfl, rfl, rfl, by simp, fun k hk hne => ?_⟩
  have : g ≠ k := fun e => hne (by rw [e])
  simp [putRow, mapBlock, Sort.ahead, Array.getElem?_modify, this]

theorem compactS_any (base : Nat) (A : Option Addr) (n c : Nat) (xs : List ByteArray) (w : World) (hn : xs.length = n) (hbig : n ≤ 1000000) (hown : w.ownsRow base 9 1 (.slice A n c) n ((sortedB xs).map encStr)) :
    Calls Tryz.prog 91 #[.slice A n c] w fun e w' => e = .returned (.slice A (Lib.compact (sortedB xs)).length c) ∧ Below base w w' := by
  subst hn
  have hl : (sortedB xs).length = xs.length := by rw [sortedB, List.length_mergeSort, bytesL_length]
  rcases hown.2 with ⟨hv, h0⟩ | ⟨g, cap, cur, hv, hbg, hg, hnc, hcm, hcs, htk⟩
  · injection hv with h1 h2 h3
    subst h1 h3
    have hx : xs = [] := List.eq_nil_of_length_eq_zero h0
    subst hx
    refine (AnyG.slices_Compact_string_empty Tryz.compactS none 0 w).mono ?_
    rintro e w' ⟨rfl, rfl⟩
    exact ⟨by rw [show sortedB [] = [] by simp [sortedB, bytesL]]; rfl, Below.refl _ _⟩
  · injection hv with h1 h2 h3
    subst h1 h3
    have hlt : g < w.heap.size := (Array.getElem?_eq_some_iff.1 hg).1
    have htk' : cur.toList.take (sortedB xs).length = (sortedB xs).map encStr := by rw [← htk, hl, Nat.mul_one]
    have hc := AnyG.slices_Compact_string Tryz.compactS g 0 c (sortedB xs) w (holds_of_block hg htk') (by omega) (by omega)
    rw [hl] at hc
    refine hc.mono ?_
    rintro e w' ⟨rfl, k, rfl⟩
    refine ⟨rfl, ?_⟩
    exact (But.grown (But.refl (fun k => k = g) w) (grownBy_row _) (fun k hk => by cases hk; exact .inl rfl)).below' (by omega) (fun i hi => by subst hi; exact hbg)

theorem unlike_any (F : Nat → Prop) (A : Option Addr) (n c : Nat) (xs : List ByteArray) (w : World) (h : LsAt F w 1 SRow A n c xs) (hbig : n ≤ 1000000) :
    Calls Tryz.prog 56 #[.slice A n c] w fun e w' => e = .returned (.bool (decide xs.Nodup)) ∧ Below w.heap.size w w' := by
  have hl := h.len
  have hL : LsAt (fun b => b < w.heap.size) w 1 SRow A n c xs := h.conv (Kept.refl _ _) (fun a ha h0 _ => h.lt h0 a ha) (fun _ _ _ h => h)
  have hb1 : Below w.heap.size w (w.alloc (.cells #[.slice A n c] 56)) := (Below.refl _ _).alloc (Nat.le_refl _) _
  have hbx := Boxed.new w 56 (.slice A n c)
  have Hv := Lib.hid (callsIn_wide.1 (values_in 4 A n c w))
  have Hs := Lib.hid (sortedS_any 126 #[.pointer (some ⟨w.heap.size, 0, none⟩)] (enters_of Tryz.func126 (by kernel_rfl) rfl) xs (by omega) _ w.heap.size hb1.size
    (hl ▸ values_stops 3 (by omega) w.heap.size w.heap.size A n c xs _ (by simp) hbx.cell (hL.below hb1)))
  have ho : decide ((Lib.compact (sortedB xs)).length = n) = decide xs.Nodup := by
    rw [decide_eq_decide, ← hl]; exact once_sorted xs
  have Ho := Lib.hid ho
  clear ho
  subst hl
  go_enter Tryz.func56, Tryz.ntmps56
  go_wp2_with (first | (go_at_call 93; refine Hv.out.mono ?_; rintro e w1 ⟨rfl, rfl⟩) | (go_at_call 92; refine Hs.out.mono ?_; rintro e w2 ⟨A2, c2, rfl, hrow, hb2⟩; have Hk := Lib.hid (compactS_any _ A2 xs.length c2 xs w2 rfl hbig hrow)) | (go_at_call 91; refine Hk.out.mono ?_; rintro e w3 ⟨rfl, hb3⟩))
  go_ret
  refine ⟨ret_bool ?_, (hb1.trans (hb2.mono hb1.size)).trans (hb3.mono (hb1.size))⟩
  rw [← Ho.out]
  rw [Bool.eq_iff_iff]
  simp
  omega
end Go.Proofs.YtlakeanldbdedaaGreat
