/- Syntax, part I: a slice's values, collected and sorted. -/
import Derived.Test.YtgihhkfppnhdpaaSynH
import Derived.Test.YtgihhkfppnhdpaaSynQ
import Derived.Test.YtgihhkfppnhdpaaShelfS
import Derived.Sort.OwnSorted
import Derived.RangeFuncNested
import Derived.RangeFuncBound
import Derived.RangeFuncCalls
import Derived.RangeFuncLeaves
import Derived.RangeFuncWrites
import Derived.RangeFuncBox
import Derived.Maps.AppendAt
import Derived.Shelf.Abstract
import Derived.Shelf.RegionOpen
import Derived.OwnWalkIn
import Derived.TacticsInMore
import Derived.LoopNIn
import Derived.LoopIn
namespace Go.Proofs.Ytgihhkfppnhdpaa
open Go.RowKit Go.Afx Go.Shelf Go.Sort

theorem take_succ_of' {α : Type} {l : List α} {k : Nat} {x : α} (h : l[k]? = some x) : l.take (k + 1) = l.take k ++ [x] := by
  obtain ⟨hk, rfl⟩ := List.getElem?_eq_some_iff.1 h
  exact List.take_succ_eq_append_getElem hk

section
attribute [local go_sem] Oper.semAt_some

set_option maxRecDepth 100000 in
set_option maxHeartbeats 2000000 in
theorem values1_in (d : Nat) (hd : 1 ≤ d) (l Bs n₀ : Nat) (A : Option Addr) (n c : Nat) (xs : List ByteArray) (J Jx : List ByteArray → World → Prop)
    (hY : ∀ pre x W, J pre W → pre.length < n → YieldAt Fence.wide (d - 1) Try.prog l #[.string x] W fun e W' =>
      (e = .returned (.bool true) ∧ J (pre ++ [x]) W' ∧ Below n₀ W W') ∨ (e = .returned (.bool false) ∧ Jx (pre ++ [x]) W'))
    (W : World) (hBs : W.cell? ⟨Bs, 0, none⟩ = some (.slice A n c)) (hL : LsAt (fun b => b < n₀) W 1 SRow A n c xs) (h0 : J [] W) :
    CallsIn Fence.wide d Try.prog 87 #[.func (.yield l) #[] #[], .pointer (some ⟨Bs, 0, none⟩)] W fun e W' => (∃ v, e = .returned v) ∧
      ((∃ ys, ys = xs ∧ J ys W') ∨ (∃ pre, True ∧ Jx pre W')) := by
  have hn := hL.n_le
  have Hl := Lib.hid hL.len
  refine callsIn_of_wp Try.func87 rfl trivial ?_ rfl
  simp only [Try.ntmps87, List.size_toArray, List.length_cons, List.length_nil, Nat.reduceAdd, Nat.reduceSub, Array.replicate_succ, Array.replicate_zero, List.push_toArray, List.append_toArray, List.nil_append, List.cons_append]
  gi_wp2
  gi_loopw [7] (fun i wr => ∃ k : Nat, k ≤ n ∧ i = .int .i64 k ∧ J (xs.take k) wr ∧ Below n₀ W wr) (fun i _ => n - (intOf i).toNat)
  case atStart => exact ⟨0, Nat.zero_le _, rfl, by simpa using h0, Below.refl _ _⟩
  case round =>
    obtain ⟨k, hk, rfl, hJs, hnx⟩ := hrel
    by_cases hlt : k < n
    · obtain ⟨b, o, r, x, rfl, hbl, hb0, hx, hrl, ⟨rfl, hs⟩, hc⟩ := hL.get hlt
      have hcx : wr.cell? ⟨b, o + k, none⟩ = some (.string x) := (hnx.cell (p := ⟨b, o + k, none⟩) hb0).trans (by simpa using hc 0 _ rfl)
      have Hx := Lib.hid (take_succ_of' hx)
      clear hc hx
      obtain ⟨fn, tmps, assign, body, hy, hR⟩ := hY _ x wr hJs (by rw [List.length_take]; omega)
      gi_wp2
      refine hR.mono ?_
      rintro e W3 (⟨rfl, hJ3, hk3⟩ | ⟨rfl, hJx3⟩)
      · gi_wp2
        go_roundw
        case rel => exact ⟨k + 1, by omega, by simp, by rw [Hx.out]; exact hJ3, hnx.trans hk3⟩
        case measure => simp [intOf]; omega
      · gi_wp2
        refine bodyPost_ret (results_none rfl _ _ _) rfl ?_
        exact ⟨⟨_, rfl⟩, .inr ⟨_, trivial, hJx3⟩⟩
    · obtain rfl : k = n := by omega
      gi_wp2
      go_end0
      rw [List.take_of_length_le (by rw [Hl.out]; omega)] at hJs
      exact ⟨⟨_, rfl⟩, .inl ⟨_, rfl, hJs⟩⟩

set_option maxHeartbeats 1000000 in
/-- slices.Values: the slice is boxed, the function value captures the box -/
theorem values_in (d : Nat) (A : Option Addr) (n c : Nat) (w : World) :
    CallsIn Fence.wide d Try.prog 69 #[.slice A n c] w fun e w' => e = .returned (.func (.func 87) #[] #[.pointer (some ⟨w.heap.size, 0, none⟩)]) ∧ w' = w.alloc (.cells #[.slice A n c] 40) := by
  refine callsIn_of_wp Try.func69 rfl trivial ?_ rfl
  simp only [Try.ntmps69, List.size_toArray, List.length_cons, List.length_nil, Nat.reduceAdd, Nat.reduceSub, Array.replicate_succ, Array.replicate_zero, List.push_toArray, List.append_toArray, List.nil_append, List.cons_append]
  gi_wp2
  go_ret
  exact ⟨rfl, rfl⟩

theorem values_stops (d : Nat) (hd : 1 ≤ d) (Bs n₀ : Nat) (A : Option Addr) (n c : Nat) (xs : List ByteArray) (w : World) (hBs : Bs < w.heap.size)
    (hc : w.cell? ⟨Bs, 0, none⟩ = some (.slice A n c)) (hL : LsAt (fun b => b < n₀) w 1 SRow A n c xs) :
    SeqStopsK Fence.wide d Try.prog 87 #[.pointer (some ⟨Bs, 0, none⟩)] (fun x : ByteArray => #[Value.string x]) (Below n₀) (fun ys => ys = xs) (fun _ => True) n w := fun l J Jx W hW _ _ hY h0 =>
  values1_in d hd l Bs n₀ A n c xs J Jx hY W ((hW.cell (p := ⟨Bs, 0, none⟩) hBs).trans hc) (hL.below hW) h0

theorem tyStr : ElemTy Try.prog 40 9 1 16 (.string ByteArray.empty) := ⟨Try.underlying40, by kernel_rfl, rfl, by decide⟩

set_option maxRecDepth 100000 in
set_option maxHeartbeats 2000000 in
/-- slices.AppendSeq(nil, seq), at an iterator that reads memory below the call -/
theorem appendSeq_in (d : Nat) (hd : 3 ≤ d) (g : Nat) (lb : Array Value) (eg : ∀ args w, (callFunc g args).run Try.prog w = .ok (.enter g args) w) (xs : List ByteArray) (hN : xs.length ≤ maxLen) (hNb : xs.length * 16 ≤ 140737488355328) (w : World) (n₀ : Nat) (hn₀ : n₀ ≤ w.heap.size)
    (hseq : SeqStopsK Fence.wide (d - 1) Try.prog g lb (fun x : ByteArray => #[Value.string x]) (Below n₀) (fun ys => ys = xs) (fun _ => True) xs.length w) :
    CallsIn Fence.wide d Try.prog 63 #[.slice none 0 0, .func (.func g) #[] lb] w fun e W' => ∃ v, e = .returned v ∧ W'.ownsRow w.heap.size 9 1 v xs.length (xs.map Value.string) ∧ (v = .slice none 0 0 ↔ xs = []) ∧ Below w.heap.size w W' := by
  have h1 : 1 ≤ d := by omega
  obtain ⟨i0, hi, hz0, hz1, hz2⟩ := tyStr.at_
  refine callsIn_of_wp_marks Try.func63 rfl trivial ?_ rfl
  simp only [Try.ntmps63, List.size_toArray, List.length_cons, List.length_nil, Nat.reduceAdd, Nat.reduceSub, Array.replicate_succ, Array.replicate_zero, List.push_toArray, List.append_toArray, List.nil_append, List.cons_append]
  gi_wp2
  have bO := Boxed.new w 40 (.slice none 0 0)
  have hB0 : Below w.heap.size w (w.alloc (.cells #[.slice none 0 0] 40)) := (Below.refl _ w).alloc (Nat.le_refl _) _
  refine wpIn_rangeFunc_ownG rfl h1 (gf := g) (lb := lb) rfl trivial eg hseq belowK_t (belowK_b (by simp; omega)) hB0 (fun _ => rfl)
    (fun pre W => (∃ v, Boxed W w.heap.size 40 v ∧ W.ownsRow w.heap.size 9 1 v pre.length (pre.map Value.string) ∧ (v = .slice none 0 0 ↔ pre = [])) ∧ Below w.heap.size w W)
    (fun _ _ _ => False)
    (OwnFrom.and (Own.from (holdsRow_own w.heap.size w.heap.size 40 9 1 (fun pre => pre.length) (fun pre => pre.map Value.string) (fun pre v => v = .slice none 0 0 ↔ pre = [])) _) (ownFrom_below (Nat.le_refl _) (by simp)))
    (fun _ _ _ _ _ hs _ _ => hs)
    ⟨⟨_, bO, World.ownsRow_nil _ _ _ _, by simp⟩, hB0⟩
    (fun x => { tmps := #[.slice none 0 0, .func (.func g) #[] lb, .pointer (some ⟨w.heap.size, 0, none⟩), undef, .slice none 0 0, .string x, .func (.func g) #[] lb, .string x, undef, undef, undef, undef, undef], defers := [] }) ?assign ?body ?done ?stop
  case assign =>
    intro l x W K hK
    gi_wp2
    exact hK
  case body =>
    rintro l pre x W ⟨⟨v, hv, hrow, hnil⟩, hB⟩ hlt
    have hc := hv.cell
    gi_wp2_with (gi_at_builtin; refine wpListIn_append_own _ rfl _ _ 40 rfl w.heap.size 9 i0 (.string ByteArray.empty) 1 16 Try.underlying40 hi hz0 hz1 hz2 rfl (by decide) _ _ _ rfl (hrow.alloc _) ⟨W.heap.size, 0, none⟩ 1 1 [.string x] rfl rfl (cell_one_new _ _ _) (by simp [Value.oneCell']) (by omega) (by omega) (by have := hB.size; simp; omega) ?_; intro v' w1 hown' hgrow _; obtain ⟨g', cap', rfl⟩ := ownsRow_succ hown'; obtain ⟨hv1, hv2, hr2, hk2, hb2⟩ := hv.appended (by decide) hrow hB.size (Nat.le_refl _) hown' hgrow; have hc1 := hv1.cell; have hf1 := hv1.frozen)
    exact ⟨hk2.from _, hb2.mono hn₀, ⟨_, hv2, by simpa using hr2, by simp⟩, hB.trans hb2⟩
  case done =>
    rintro D ys W hD rfl ⟨⟨v, hv, hrow, hnil⟩, hB⟩ hK
    have hc := hv.cell
    gi_wp2
    refine ⟨by simp, .inl ⟨_, _, rfl, run_takeDeferred hK, ?_⟩⟩
    exact ⟨_, results_tmp rfl _ _ _, v, rfl, ownsRow_putObj hrow _ hK rfl, hnil, hB.trans (belowK_b (w := w) (Nat.le_refl _) W D _ _ (by simp at hD; omega) hK rfl rfl)⟩
  case stop =>
    rintro D c pre W _ _ h _
    exact h.elim
end

theorem collect_any (g : Nat) (lb : Array Value) (eg : ∀ args w, (callFunc g args).run Try.prog w = .ok (.enter g args) w) (xs : List ByteArray) (hN : xs.length ≤ 1000000) (w : World) (n₀ : Nat) (hn₀ : n₀ ≤ w.heap.size)
    (hseq : SeqStopsK Fence.wide 3 Try.prog g lb (fun x : ByteArray => #[Value.string x]) (Below n₀) (fun ys => ys = xs) (fun _ => True) xs.length w) :
    Calls Try.prog 50 #[.func (.func g) #[] lb] w fun e W' => ∃ v, e = .returned v ∧ W'.ownsRow w.heap.size 9 1 v xs.length (xs.map Value.string) ∧ (v = .slice none 0 0 ↔ xs = []) ∧ Below w.heap.size w W' := by
  have Hc := Lib.hid (callsIn_wide.1 (appendSeq_in 4 (by omega) g lb eg xs (by unfold maxLen; omega) (by omega) w n₀ hn₀ hseq))
  go_enter Try.func50, Try.ntmps50
  go_wp2_with (go_at_call 63; refine Hc.out.mono ?_; rintro e w1 ⟨v, rfl, hrow, hnil, hb⟩)
  go_ret
  exact ⟨v, rfl, hrow, hnil, hb⟩

def sortedB (xs : List ByteArray) : List (List UInt8) := (bytesL xs).mergeSort fun x y => decide (x ≤ y)

theorem sortS_any (base : Nat) (A : Option Addr) (n c : Nat) (xs : List ByteArray) (w : World) (hn : xs.length = n) (hbig : n ≤ 1000000) (hown : w.ownsRow base 9 1 (.slice A n c) n (xs.map Value.string)) :
    Calls Try.prog 51 #[.slice A n c] w fun e w' => e = .returned (.tuple #[]) ∧ w'.ownsRow base 9 1 (.slice A n c) n ((sortedB xs).map encStr) ∧ Below base w w' := by
  subst hn
  rcases hown.2 with ⟨hv, h0⟩ | ⟨g, cap, cur, hv, hbg, hg, hnc, hcm, hcs, htk⟩
  · injection hv with h1 h2 h3
    subst h1 h3
    have hx : xs = [] := List.eq_nil_of_length_eq_zero h0
    subst hx
    refine (AnyM.slices_Sort_string_none Try.sortS none 0 w).mono ?_
    rintro e w' ⟨rfl, rfl⟩
    exact ⟨rfl, by rw [show sortedB [] = [] by simp [sortedB, bytesL]]; exact hown, Below.refl _ _⟩
  · injection hv with h1 h2 h3
    subst h1 h3
    have hlt : g < w.heap.size := (Array.getElem?_eq_some_iff.1 hg).1
    have hl : (bytesL xs).length = xs.length := bytesL_length xs
    have htk' : cur.toList.take (bytesL xs).length = (bytesL xs).map encStr := by rw [bytesL_enc, ← htk, hl, Nat.mul_one]
    have hc := AnyM.slices_Sort_string Try.sortS g 0 c (bytesL xs) w (holds_of_block hg htk') hlt (by omega)
    rw [hl] at hc
    refine hc.mono ?_
    rintro e w' ⟨rfl, k, os, rfl⟩
    refine ⟨rfl, ?_, ?_⟩
    · have h := ownsRow_sorted (ss := bytesL xs) (ts := sortedB xs) (n := k) (os := os) (List.length_mergeSort _) hbg hg (by omega) hcm hcs
      rw [hl] at h
      exact h
    · exact (But.grown (But.refl (fun k => k = g) w) (grownBy_sorted _) (fun k hk => by cases hk; exact .inl rfl)).below' (by omega) (fun i hi => by subst hi; exact hbg)

theorem sortedS_any (g : Nat) (lb : Array Value) (eg : ∀ args w, (callFunc g args).run Try.prog w = .ok (.enter g args) w) (xs : List ByteArray) (hN : xs.length ≤ 1000000) (w : World) (n₀ : Nat) (hn₀ : n₀ ≤ w.heap.size)
    (hseq : SeqStopsK Fence.wide 3 Try.prog g lb (fun x : ByteArray => #[Value.string x]) (Below n₀) (fun ys => ys = xs) (fun _ => True) xs.length w) :
    Calls Try.prog 33 #[.func (.func g) #[] lb] w fun e W' => ∃ A c, e = .returned (.slice A xs.length c) ∧ W'.ownsRow w.heap.size 9 1 (.slice A xs.length c) xs.length ((sortedB xs).map encStr) ∧ Below w.heap.size w W' := by
  have Hc := Lib.hid (collect_any g lb eg xs hN w n₀ hn₀ hseq)
  go_enter Try.func33, Try.ntmps33
  go_wp2_with (first | (go_at_call 50; refine Hc.out.mono ?_; rintro e w1 ⟨v, rfl, hrow, hnil, hb⟩; obtain ⟨A, c, rfl, hnc⟩ := ownsRow_form hrow; have Hs := Lib.hid (sortS_any _ A xs.length c xs w1 rfl hN hrow)) | (go_at_call 51; refine Hs.out.mono ?_; rintro e w2 ⟨rfl, hrow2, hb2⟩))
  go_ret
  exact ⟨A, c, rfl, hrow2, hb.trans (hb2.mono (Nat.le_refl _))⟩

theorem grownBy_row {w : World} {g n : Nat} (d : Array (List UInt8)) : w.grownBy (putRow encStr (Sort.ahead w n) g 0 d) (some g) := by
  refine ⟨rfl, rfl, rfl, by simp, fun k hk hne => ?_⟩
  have : g ≠ k := fun e => hne (by rw [e])
  simp [putRow, mapBlock, Sort.ahead, Array.getElem?_modify, this]

theorem compactS_any (base : Nat) (A : Option Addr) (n c : Nat) (xs : List ByteArray) (w : World) (hn : xs.length = n) (hbig : n ≤ 1000000) (hown : w.ownsRow base 9 1 (.slice A n c) n ((sortedB xs).map encStr)) :
    Calls Try.prog 68 #[.slice A n c] w fun e w' => e = .returned (.slice A (Lib.compact (sortedB xs)).length c) ∧ Below base w w' := by
  subst hn
  have hl : (sortedB xs).length = xs.length := by rw [sortedB, List.length_mergeSort, bytesL_length]
  rcases hown.2 with ⟨hv, h0⟩ | ⟨g, cap, cur, hv, hbg, hg, hnc, hcm, hcs, htk⟩
  · injection hv with h1 h2 h3
    subst h1 h3
    have hx : xs = [] := List.eq_nil_of_length_eq_zero h0
    subst hx
    refine (AnyG.slices_Compact_string_empty Try.compactS none 0 w).mono ?_
    rintro e w' ⟨rfl, rfl⟩
    exact ⟨by rw [show sortedB [] = [] by simp [sortedB, bytesL]]; rfl, Below.refl _ _⟩
  · injection hv with h1 h2 h3
    subst h1 h3
    have hlt : g < w.heap.size := (Array.getElem?_eq_some_iff.1 hg).1
    have htk' : cur.toList.take (sortedB xs).length = (sortedB xs).map encStr := by rw [← htk, hl, Nat.mul_one]
    have hc := AnyG.slices_Compact_string Try.compactS g 0 c (sortedB xs) w (holds_of_block hg htk') (by omega) (by omega)
    rw [hl] at hc
    refine hc.mono ?_
    rintro e w' ⟨rfl, k, rfl⟩
    refine ⟨rfl, ?_⟩
    exact (But.grown (But.refl (fun k => k = g) w) (grownBy_row _) (fun k hk => by cases hk; exact .inl rfl)).below' (by omega) (fun i hi => by subst hi; exact hbg)

theorem unlike_any (F : Nat → Prop) (A : Option Addr) (n c : Nat) (xs : List ByteArray) (w : World) (h : LsAt F w 1 SRow A n c xs) (hbig : n ≤ 1000000) :
    Calls Try.prog 55 #[.slice A n c] w fun e w' => e = .returned (.bool (decide xs.Nodup)) ∧ Below w.heap.size w w' := by
  have hl := h.len
  have hL : LsAt (fun b => b < w.heap.size) w 1 SRow A n c xs := h.conv (Kept.refl _ _) (fun a ha h0 _ => h.lt h0 a ha) (fun _ _ _ h => h)
  have hb1 : Below w.heap.size w (w.alloc (.cells #[.slice A n c] 40)) := (Below.refl _ _).alloc (Nat.le_refl _) _
  have hbx := Boxed.new w 40 (.slice A n c)
  have Hv := Lib.hid (callsIn_wide.1 (values_in 4 A n c w))
  have Hs := Lib.hid (sortedS_any 87 #[.pointer (some ⟨w.heap.size, 0, none⟩)] (enters_of Try.func87 (by kernel_rfl) rfl) xs (by omega) _ w.heap.size hb1.size
    (hl ▸ values_stops 3 (by omega) w.heap.size w.heap.size A n c xs _ (by simp) hbx.cell (hL.below hb1)))
  have ho : decide ((Lib.compact (sortedB xs)).length = n) = decide xs.Nodup := by
    rw [decide_eq_decide, ← hl]; exact once_sorted xs
  have Ho := Lib.hid ho
  clear ho
  subst hl
  go_enter Try.func55, Try.ntmps55
  go_wp2_with (first | (go_at_call 69; refine Hv.out.mono ?_; rintro e w1 ⟨rfl, rfl⟩) | (go_at_call 33; refine Hs.out.mono ?_; rintro e w2 ⟨A2, c2, rfl, hrow, hb2⟩; have Hk := Lib.hid (compactS_any _ A2 xs.length c2 xs w2 rfl hbig hrow)) | (go_at_call 68; refine Hk.out.mono ?_; rintro e w3 ⟨rfl, hb3⟩))
  go_ret
  refine ⟨ret_bool ?_, (hb1.trans (hb2.mono hb1.size)).trans (hb3.mono (hb1.size))⟩
  rw [← Ho.out]
  rw [Bool.eq_iff_iff]
  simp
  omega
end Go.Proofs.Ytgihhkfppnhdpaa
