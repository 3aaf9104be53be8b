/- Parts of this proof, one behind the other: RefW1. -/
import Derived.Test.YtgihhkfppnhdpaaSp23
import Derived.Deep.RegionHeld3
import Derived.Deep.QuietTactic
import Derived.IntWalk
import Derived.BigQuiet
namespace Go.Proofs.Ytgihhkfppnhdpaa
open Go.RowKit Go.Afx Go.Maps

section
variable {w : World} {sz n c : Nat} {xs : List (List Value)}
theorem RowsAt_cut {A : Option Addr} (h : RowsAt w sz A n c xs) {k : Nat} (hk : k ≤ n) : RowsAt w sz A k c (xs.take k) :=
  ⟨by have := h.len; simp; omega, by have := h.cap; omega, h.max, fun j row hr => by
    rw [List.getElem?_take] at hr
    split at hr
    · exact h.at_ j row hr
    · cases hr⟩
theorem RowsAt_drop {b o : Nat} (h : RowsAt w sz (some ⟨b, o, none⟩) n c xs) {k : Nat} (hk : k ≤ n) : RowsAt w sz (some ⟨b, o + k * sz, none⟩) (n - k) (c - k) (xs.drop k) :=
  ⟨by have := h.len; simp; omega, by have := h.cap; omega, by have := h.max; omega, fun j row hr => by
    rw [List.getElem?_drop] at hr
    obtain ⟨b2, o2, hA, hb, hc⟩ := h.at_ (k + j) row hr
    injection hA with hA
    injection hA with e1 e2
    subst e1 e2
    exact ⟨_, _, rfl, hb, fun i u hu => by have := hc i u hu; rw [Nat.add_mul, ← Nat.add_assoc] at this; exact this⟩⟩
theorem RowsAt_none {A : Option Addr} (hc : c ≤ maxLen) : RowsAt w sz A 0 c [] := ⟨rfl, Nat.zero_le _, hc, fun k row h => by simp at h⟩
end
theorem left_rows {α : Type} {Q : List Value → α → Prop} {rows : List (List Value)} {xs : List α} (h : ∀ (k : Nat) (r : List Value) (x : α), rows[k]? = some r → xs[k]? = some x → Q r x) (m : Nat) :
    ∀ (k : Nat) (r : List Value) (x : α), (rows.take m ++ rows.drop (m + 1))[k]? = some r → (xs.take m ++ xs.drop (m + 1))[k]? = some x → Q r x := by
  intro k r x hr hx
  rw [← List.eraseIdx_eq_take_drop_succ, List.getElem?_eraseIdx] at hr hx
  split at hr
  · rw [if_pos (by assumption)] at hx; exact h k r x hr hx
  · rw [if_neg (by assumption)] at hx; exact h (k + 1) r x hr hx
/-- behind the statement that is left off -/
def LeftAt (p : Pr) (j : Nat) (w3 : World) (nm sr pt : ByteArray) (fu : Int) (Ap2 : Option Addr) (np2 cp2 : Nat) (W : World) : Prop :=
  ∃ (A6 : Option Addr) (mq c6 : Nat), IsBlk W w3.heap.size 34 #[.string nm, .string sr, .string pt, .int .i64 fu, .slice Ap2 np2 cp2, .slice A6 mq c6] ∧ StsAt (fun b => b < W.heap.size) 101 W A6 mq c6 (leftOff p j).body ∧ Below w3.heap.size w3 W
theorem left_sts {F : Nat → Prop} {w3 W : World} {A6 : Option Addr} {mq c6 base : Nat} {T : TypeId} {rows : List (List Value)} {p : Pr} {j : Nat} (hF : ∀ b, b < w3.heap.size → F b → b < W.heap.size) (hb : Below w3.heap.size w3 W) (hrl : rows.length = p.body.length)
    (hP : ∀ (k : Nat) (r : List Value) (x : St), rows[k]? = some r → p.body[k]? = some x → r.length = 8 ∧ StAt F 101 w3 r x)
    (hown : W.ownsRow base T 8 (.slice A6 mq c6) mq (rows.take j ++ rows.drop (j + 1)).flatten) (hm : (rows.take j ++ rows.drop (j + 1)).length = mq) : StsAt (fun b => b < W.heap.size) 101 W A6 mq c6 (leftOff p j).body := by
  have h1 := left_rows hP j
  have hl : (rows.take j ++ rows.drop (j + 1)).length = (leftOff p j).body.length := by
    unfold leftOff
    simp only [List.length_append, List.length_take, List.length_drop, hrl]
  have hlen : ∀ r ∈ rows.take j ++ rows.drop (j + 1), r.length = 8 := fun r hr => by
    obtain ⟨i, hi⟩ := List.mem_iff_getElem?.1 hr
    have hlt := (List.getElem?_eq_some_iff.1 hi).1
    exact (h1 i r ((leftOff p j).body[i]'(by omega)) hi (List.getElem?_eq_getElem _)).1
  refine ⟨_, RowsAt.of_own hown hlen hm, fun a ha h0 => ?_, hl, fun k r x hr hx => ?_⟩
  · subst ha
    exact (hown.lt a.block rfl).2
  · obtain ⟨h2, h3⟩ := h1 k r x hr hx
    exact ⟨h2, StAt.turn hF (Kept.of_below hb) 101 (Nat.le_refl _) h3⟩
/-- the place that a number falls on -/
def placeN (k : Int) (n : Nat) : Nat := (IntKind.u64.wrap k % (n : Int)).toNat
theorem placeN_lt (k : Int) (n : Nat) (h : 0 < n) : placeN k n < n := by
  unfold placeN
  have a := Int.emod_nonneg (IntKind.u64.wrap k) (b := (n : Int)) (by omega)
  have b := Int.emod_lt_of_pos (IntKind.u64.wrap k) (b := (n : Int)) (by omega)
  omega
theorem place_int (k : Int) (n : Nat) (h0 : 0 < n) (h1 : n ≤ 1000) : wrap64 ((IntKind.u64.wrap k).tmod (n : Int)) = (placeN k n : Int) := by
  have hu := u64_nonneg k
  unfold placeN
  generalize IntKind.u64.wrap k = u at *
  rw [Int.tmod_eq_emod_of_nonneg hu]
  have a := Int.emod_nonneg u (b := (n : Int)) (by omega)
  have b := Int.emod_lt_of_pos u (b := (n : Int)) (by omega)
  generalize u % (n : Int) = m at *
  rw [IntWalk.wrap64_in m ⟨by omega, by omega⟩]
  omega

set_option maxRecDepth 100000 in
set_option maxHeartbeats 8000000 in
theorem within_walk (HRB : ∀ F : Nat → Prop, RBuiltS F 101) (F : Nat → Prop) (name src part : ByteArray) (fuel : Int) (Ap : Option Addr) (np cp : Nat) (params : List Co) (A A' : Option Addr) (n c n' c' : Nat) (xs : List Lf) (ys : List Kn) (Ak : Option Addr) (nk ck : Nat) (ks : List Int) (k : Int) (w : World)
    (hp : LsAt F w 2 CoRow Ap np cp params) (h1 : LsAt F w 6 (LfAt F w) A n c xs) (h2 : LsAt F w 8 (KnAt F w) A' n' c' ys) (hks : LsAt F w 1 IRow Ak nk ck ks) (hF : ∀ k, F k → k < w.heap.size) (okn : okS name) (oks : okS src) (okp : okS part) (okf : okI fuel) :
    Calls Try.prog 4 #[.agg #[.string name, .string src, .string part, .int .i64 fuel, .slice Ap np cp, .slice A n c, .slice A' n' c', .slice Ak nk ck], .int .i64 k] w fun x w' => x = .returned (.bool true) ∧ Below w.heap.size w w' := by
  have hb1 : Below w.heap.size w (w.alloc (.cells #[.string name, .string src, .string part, .int .i64 fuel, .slice Ap np cp, .slice A n c, .slice A' n' c', .slice Ak nk ck] 31)) := (Below.refl _ _).alloc (Nat.le_refl _) _
  have HOf := Lib.hid (of_any HRB F name src part fuel Ap np cp params A A' n c n' c' xs ys Ak nk ck ks (w.alloc (.cells #[.string name, .string src, .string part, .int .i64 fuel, .slice Ap np cp, .slice A n c, .slice A' n' c', .slice Ak nk ck] 31)) (hp.below hb1) (h1.conv (Kept.of_below hb1) (fun _ _ _ h => h) (fun r x _ hx => LfAt.below hx hb1)) (h2.conv (Kept.of_below hb1) (fun _ _ _ h => h) (fun r x _ hx => KnAt.below hx hb1)) (hks.below hb1) (fun k hk => by have := hF k hk; simp; omega) okn oks okp okf)
  have HA := Lib.hid (fun W => awake_any W)
  have Hb1 := Lib.hid hb1
  clear hp h1 h2 hks hb1 okn oks okp okf hF
  go_enter Try.func4, Try.ntmps4
  go_upto_region 2 with (go_at_call 11; refine HOf.out.mono ?_; rintro e w2 ⟨nm, sr, pt, fu, Ap2, np2, cp2, Ab2, nb2, cb2, m, d, r, ok, rfl, hb2, hP⟩)
  obtain ⟨w3, Hw3⟩ : ∃ w3, Hid (w3 = w2.alloc (.cells #[.string nm, .string sr, .string pt, .int .i64 fu, .slice Ap2 np2 cp2, .slice Ab2 nb2 cb2] 34)) := ⟨_, rfl⟩
  rw [← Hw3.out]
  have hb3 : Below w2.heap.size w2 w3 := by rw [Hw3.out]; exact (Below.refl _ _).alloc (Nat.le_refl _) _
  have Hz3 : Hid (w3.heap.size = w2.heap.size + 1) := Lib.hid (by rw [Hw3.out]; simp)
  have hx3 : IsBlk w3 w2.heap.size 34 #[.string nm, .string sr, .string pt, .int .i64 fu, .slice Ap2 np2 cp2, .slice Ab2 nb2 cb2] := by rw [Hw3.out]; exact IsBlk.laid _ _ _
  have H03 := Lib.hid ((Hb1.out.trans (hb2.mono Hb1.out.size)).trans (hb3.mono (Nat.le_trans Hb1.out.size hb2.size)))
  have Hb3 := Lib.hid hb3
  have Hx := Lib.hid (fun W (hW : Below w3.heap.size w3 W) => prBox (hx3.as_was (hW.block _ hx3.lt)))
  clear hb2 hb3 HOf Hb1
  have hR : Below w3.heap.size w3 w3 := Below.refl _ _
  obtain ⟨p0, p1, p2, p3, p4, p5, pl⟩ := Hx.out _ hR
  cases ok
  · clear hP hx3
    go_wp2_with (go_at_call 6; refine (HA.out _).mono ?_; rintro x w4 ⟨rfl, hb4⟩)
    go_ret
    exact ⟨rfl, H03.out.trans (hb4.mono H03.out.size)⟩
  obtain ⟨p, hPr, hnd, hr, hp12, hb12⟩ := hP rfl
  have hPr3 := hPr.below Hb3.out
  have HP := Lib.hid hPr3
  have Hr := Lib.hid hr
  have Hsz := Lib.hid (fun W (hW : Below w3.heap.size w3 W) => (show Calls Try.prog 12 #[.agg #[.string nm, .string sr, .string pt, .int .i64 fu, .slice Ap2 np2 cp2, .slice Ab2 nb2 cb2]] W fun x w' => x = .returned (.tuple #[.int .i64 m, .int .i64 d]) ∧ Below W.heap.size W w' from by
    have h := size_any _ 101 p _ W (hPr3.below hW) (by omega)
    rw [told_size, ← hnd] at h
    exact h))
  cases r
  · clear hx3 hPr hPr3 hnd hr
    go_wp2_with (go_at_call 6; refine (HA.out _).mono ?_; rintro x w20 ⟨rfl, hb20⟩)
    go_ret
    exact ⟨rfl, H03.out.trans (hb20.mono H03.out.size)⟩
  have hl2 : p.body.length = nb2 := by
    obtain ⟨_, _, _, _, A4, n4, c4, A5, n5, c5, hrow, _, hbl⟩ := hPr3
    simp only [List.cons.injEq, Value.slice.injEq] at hrow
    obtain ⟨_, _, _, _, _, ⟨rfl, rfl, rfl⟩, _⟩ := hrow
    exact LsAt.len hbl
  have Hl2 := Lib.hid hl2
  by_cases hn0 : nb2 = 0
  · have e0 : ((nb2 : Int) == 0) = true := by simp; omega
    clear hx3 hPr hPr3 hnd hr hl2 hn0
    go_wp2_with (go_at_call 6; refine (HA.out _).mono ?_; rintro x w20 ⟨rfl, hb20⟩)
    go_ret
    exact ⟨rfl, H03.out.trans (hb20.mono H03.out.size)⟩
  have e0 : ((nb2 : Int) == 0) = false := by simp; omega
  have hpos : 0 < nb2 := by omega
  have hn12 : nb2 ≤ 12 := by omega
  obtain ⟨okn, oks, okp, okf, A4, n4, c4, A5, n5, c5, hrow, hpl, hbl⟩ := hPr3
  simp only [List.cons.injEq, Value.slice.injEq, Value.string.injEq, Value.int.injEq, and_true, true_and] at hrow
  obtain ⟨e1, e2, e3, e4, ⟨rfl, rfl, rfl⟩, ⟨rfl, rfl, rfl⟩⟩ := hrow
  have hcb := LsAt.n_c hbl
  have hcm := LsAt.c_le hbl
  obtain ⟨b, o, r0, x0, rfl, hbb, hFb, _⟩ := LsAt.get hbl hpos
  obtain ⟨rows, hrows, hRF, hrl, hrP⟩ := hbl
  have Hok := Lib.hid (And.intro okn (And.intro oks (And.intro okp okf)))
  have Hrp := Lib.hid (And.intro hrl hrP)
  have Hpl := Lib.hid hpl
  have Hrows := Lib.hid (fun W (hW : Below w3.heap.size w3 W) => hrows.below hW)
  have Hnd := Lib.hid hnd
  have He := Lib.hid (And.intro e1 (And.intro e2 (And.intro e3 e4)))
  clear hx3 hPr hnd hr hl2 hn0 hpl hrows hRF hrl hrP okn oks okp okf e1 e2 e3 e4 hP
  go_upto_region 6 with (fail)
  rw [place_int k nb2 hpos (by omega)]
  obtain ⟨j, Hj⟩ : ∃ j, Hid (placeN k nb2 = j) := ⟨_, rfl⟩
  have hj : j < nb2 := by rw [← Hj.out]; exact placeN_lt k nb2 hpos
  rw [Hj.out]
  obtain ⟨w4, Hw4⟩ : ∃ w4, Hid (w4 = w3.alloc (.cells #[.string nm, .string sr, .string pt, .int .i64 fu, .slice Ap2 np2 cp2, .slice (some ⟨b, o, none⟩) nb2 cb2] 34)) := ⟨_, rfl⟩
  rw [← Hw4.out]
  have hb34 : Below w3.heap.size w3 w4 := by rw [Hw4.out]; exact (Below.refl _ _).alloc (Nat.le_refl _) _
  have hz4 : w4.heap.size = w3.heap.size + 1 := by rw [Hw4.out]; simp
  have hq4 : IsBlk w4 w3.heap.size 34 #[.string nm, .string sr, .string pt, .int .i64 fu, .slice Ap2 np2 cp2, .slice (some ⟨b, o, none⟩) nb2 cb2] := by rw [Hw4.out]; exact IsBlk.laid _ _ _
  have hz3 : w2.heap.size < w3.heap.size := by have := Hz3.out; omega
  clear p0 p1 p2 p3 p4 p5 pl
  obtain ⟨p0, p1, p2, p3, p4, p5, pl⟩ := Hx.out w4 hb34
  replace p5 : w4.drew.cell? ⟨w2.heap.size, 5, none⟩ = some (.slice (some ⟨b, o, none⟩) nb2 cb2) := p5
  have hlen : ∀ r ∈ rows, r.length = 8 := fun r hr => by
    obtain ⟨i, hi⟩ := List.mem_iff_getElem?.1 hr
    have hlt := (List.getElem?_eq_some_iff.1 hi).1
    exact (Hrp.out.2 i r (p.body[i]'(by have := Hrp.out.1; omega)) hi (List.getElem?_eq_getElem _)).1
  have hone : ∀ r ∈ rows, ∀ u ∈ r, u.oneCell' = true := fun r hr => by
    obtain ⟨i, hi⟩ := List.mem_iff_getElem?.1 hr
    have hlt := (List.getElem?_eq_some_iff.1 hi).1
    exact StAt.one (Hrp.out.2 i r (p.body[i]'(by have := Hrp.out.1; omega)) hi (List.getElem?_eq_getElem _)).2
  have hlenA : ∀ r ∈ rows.take j, r.length = 8 := fun r hr => hlen r (List.mem_of_mem_take hr)
  have hlenB : ∀ r ∈ rows.drop (j + 1), r.length = 8 := fun r hr => hlen r (List.mem_of_mem_drop hr)
  have honeA : ∀ r ∈ rows.take j, ∀ u ∈ r, u.oneCell' = true := fun r hr => hone r (List.mem_of_mem_take hr)
  have honeB : ∀ r ∈ rows.drop (j + 1), ∀ u ∈ r, u.oneCell' = true := fun r hr => hone r (List.mem_of_mem_drop hr)
  have HlA := Lib.hid (And.intro hlenA honeA)
  have HlB := Lib.hid (And.intro hlenB honeB)
  have Hlen := Lib.hid hlen
  have hownA : (w4.drew.alloc (.cells #[] 52)).ownsRow w4.heap.size 52 8 (.slice (some ⟨w4.heap.size, 0, none⟩) 0 0) 0 ([] : List (List Value)).flatten := World.ownsRow_lit (base := w4.heap.size) (e := 52) (size := 8) w4.drew #[] 0 (Nat.le_refl _) (by unfold maxLen; omega) rfl
  have hb4A : Below w3.heap.size w3 (w4.drew.alloc (.cells #[] 52)) := hb34.drew.alloc (by show w3.heap.size ≤ w4.heap.size; omega) _
  have hnewA : RowsAt (w4.drew.alloc (.cells #[] 52)) 8 (some ⟨b, o, none⟩) j cb2 (rows.take j) := RowsAt_cut (Hrows.out _ hb4A) (by omega)
  have hm1 : 0 + j ≤ maxLen := by unfold maxLen; omega
  have hm2 : (0 + j) * 144 ≤ 140737488355328 := by omega
  have hm3 : w4.heap.size ≤ (w4.drew.alloc (.cells #[] 52)).heap.size := by simp
  have hm4 : j + (nb2 - (j + 1)) ≤ maxLen := by unfold maxLen; omega
  have hm5 : (j + (nb2 - (j + 1))) * 144 ≤ 140737488355328 := by omega
  have Hq := Lib.hid (fun (w5 : World) (hb : But (fun k => some w4.heap.size = some k) (w4.drew.alloc (.cells #[] 52)) w5) => (((show IsBlk w4.drew w3.heap.size 34 #[.string nm, .string sr, .string pt, .int .i64 fu, .slice Ap2 np2 cp2, .slice (some ⟨b, o, none⟩) nb2 cb2] from hq4).alloc (.cells #[] 52)).as_was (hb.block w3.heap.size (by simp; omega) (by simp; omega))))
  have HbA := Lib.hid hb4A
  have HF3 := Lib.hid (fun (W : World) (hW : Below w3.heap.size w3 W) (b : Nat) (_ : b < w3.heap.size) (hb : b < w2.heap.size) => Nat.lt_of_lt_of_le (Nat.lt_trans hb hz3) hW.size)
  clear hlen hone hlenA hlenB honeA honeB hb4A p0 p1 p2 p3 p4
  go_cut [] (fun W => LeftAt p j w3 nm sr pt fu Ap2 np2 cp2 W)
  case rest =>
    obtain ⟨A6, mq, c6, hq7, hs7, hb7⟩ := hcut
    generalize wc = w7 at *
    have hleft : PrAt (fun b => b < w7.heap.size) 101 w7 [.string nm, .string sr, .string pt, .int .i64 fu, .slice Ap2 np2 cp2, .slice A6 mq c6] (leftOff p j) := by
      obtain ⟨e1, e2, e3, e4⟩ := He.out
      subst e1 e2 e3 e4
      have hpl := Hpl.out.below hb7
      exact ⟨Hok.out.1, Hok.out.2.1, Hok.out.2.2.1, Hok.out.2.2.2, Ap2, np2, cp2, A6, mq, c6, rfl, hpl.conv (Kept.refl _ _) (fun a ha h0 _ => hpl.lt h0 a ha) (fun _ _ _ h => h), hs7⟩
    have hjl : j < p.body.length := by rw [Hl2.out]; exact hj
    have hpr : rightB 101 p = true := Hr.out.symm
    obtain ⟨c1, d1, Hcd⟩ : ∃ c1 d1, Hid ((c1, d1) = tellP (leftOff p j)) := ⟨_, _, rfl⟩
    have hlt := left_told hpr hjl
    rw [← Hcd.out, ← Hnd.out] at hlt
    obtain ⟨hl1, hl3⟩ := hlt
    have hl1 : c1 < m := hl1
    have hl3 : d1 ≤ d := hl3
    have Hy := Lib.hid (fun W (hW : Below w7.heap.size w7 W) => prBox (hq7.as_was (hW.block _ hq7.lt)))
    have hX : ∀ W, Below w7.heap.size w7 W → Below w3.heap.size w3 W := fun W hW => hb7.trans (hW.mono hb7.size)
    have HX := Lib.hid hX
    have Hsz2 := Lib.hid (fun W (hW : Below w7.heap.size w7 W) => (show Calls Try.prog 12 #[.agg #[.string nm, .string sr, .string pt, .int .i64 fu, .slice Ap2 np2 cp2, .slice A6 mq c6]] W fun x w' => x = .returned (.tuple #[.int .i64 c1, .int .i64 d1]) ∧ Below W.heap.size W w' from by
      have h := size_any _ 101 (leftOff p j) _ W (hleft.below hW) (by omega)
      rw [told_size, ← Hcd.out] at h
      exact h))
    have Hri2 := Lib.hid (fun W (hW : Below w7.heap.size w7 W) => (show Calls Try.prog 16 #[.agg #[.string nm, .string sr, .string pt, .int .i64 fu, .slice Ap2 np2 cp2, .slice A6 mq c6]] W fun x w' => x = .returned (.bool true) ∧ Below W.heap.size W w' from by
      have h := right_any _ 101 (leftOff p j) _ W (hleft.below hW) (by omega) (by show p.params.length ≤ 1000000; omega)
      rw [left_right hpr hjl] at h
      exact h))
    have HreQ := Lib.hid (fun W (hW : Below w7.heap.size w7 W) => reads_names _ (leftOff p j) _ W (hleft.below hW) (fun k hk => Nat.lt_of_lt_of_le hk hW.size) hp12)
    have HreP := Lib.hid (fun W (hW : Below w7.heap.size w7 W) => reads_names _ p _ W (HP.out.below (hX W hW)) (fun k hk => by have h1 := (hX W hW).size; have h2 := Hz3.out; show k < W.heap.size; have h3 : k < w2.heap.size := hk; omega) hp12)
    have Hsame := Lib.hid (fun s (hs : s ∈ putsB [] (readsP 101 (leftOff p j))) => left_same hpr hjl hs)
    have Hlens : Hid ((putsB [] (readsP 101 p)).length ≤ 1000000) := Lib.hid (by
      have h1 := putsB_len (readsP 101 p) []
      have h2 := (usesP_len p).1
      simp only [List.length_nil] at h1
      omega)
    generalize putsB [] (readsP 101 (leftOff p j)) = RQ at *
    generalize putsB [] (readsP 101 p) = RP at *
    have hS : Below w7.heap.size w7 w7 := Below.refl _ _
    obtain ⟨q0, q1, q2, q3, q4, q5, ql⟩ := Hy.out _ hS
    obtain ⟨p0, p1, p2, p3, p4, p5, pl⟩ := Hx.out _ (HX.out _ hS)
    clear hq7 hs7 hb7 hleft hjl hpr hX
    go_upto_region 11 with (first
      | (go_at_call 12; (with_reducible refine (Hsz.out _ (HX.out _ hS)).mono ?_); rintro x w8 ⟨rfl, hb8⟩; replace hS := hS.trans (hb8.mono hS.size); obtain ⟨q0, q1, q2, q3, q4, q5, ql⟩ := Hy.out _ hS; obtain ⟨p0, p1, p2, p3, p4, p5, pl⟩ := Hx.out _ (HX.out _ hS))
      | (go_at_call 12; (with_reducible refine (Hsz2.out _ hS).mono ?_); rintro x w9 ⟨rfl, hb9⟩; replace hS := hS.trans (hb9.mono hS.size); obtain ⟨q0, q1, q2, q3, q4, q5, ql⟩ := Hy.out _ hS; obtain ⟨p0, p1, p2, p3, p4, p5, pl⟩ := Hx.out _ (HX.out _ hS))
      | (go_at_call 13; (with_reducible refine (HreQ.out _ hS).mono ?_); rintro x w10 ⟨A10, n10, c10, rfl, hn10, hb10⟩; replace hS := hS.trans (hb10.mono hS.size); obtain ⟨q0, q1, q2, q3, q4, q5, ql⟩ := Hy.out _ hS; obtain ⟨p0, p1, p2, p3, p4, p5, pl⟩ := Hx.out _ (HX.out _ hS))
      | (go_at_call 13; (with_reducible refine (HreP.out _ hS).mono ?_); rintro x w11 ⟨A11, n11, c11, rfl, hn11, hb11⟩; replace hS := hS.trans (hb11.mono hS.size); obtain ⟨q0, q1, q2, q3, q4, q5, ql⟩ := Hy.out _ hS; obtain ⟨p0, p1, p2, p3, p4, p5, pl⟩ := Hx.out _ (HX.out _ hS)))
    have Hn10 := Lib.hid (hn10.below hb11)
    have Hn11 := Lib.hid hn11
    have hn10l := RowsAt.n_le hn10
    have Hl10 := Lib.hid hn10.len
    have hn11b : n11 ≤ 1000000 := by have h := Hlens.out; rw [hn11.len] at h; exact h
    have HS := Lib.hid hS
    have HQ := Lib.hid q5
    clear hn10 hn11 hS q0 q1 q2 q3 q4 q5 ql p0 p1 p2 p3 p4 p5 pl
    go_wp2_with fail
    go_loopw [18] (fun i wr => ∃ k : Nat, k ≤ n10 ∧ i = .int .i64 k ∧ Below w11.heap.size w11 wr) (fun i _ => n10 - (intOf i).toNat)
    case atStart => exact ⟨0, Nat.zero_le _, rfl, Below.refl _ _⟩
    case round =>
      obtain ⟨k2, hk2, rfl, hB⟩ := hrel
      by_cases hlt2 : k2 < n10
      · obtain ⟨b2, o2, s2, rfl, hbl2, hs2, hc2⟩ := (Hn10.out.below hB).at_ hlt2
        have hd : decide ((k2 : Int) < (n10 : Int)) = true := by simp; omega
        have Hput := Lib.hid (put_any A11 n11 c11 RP s2 wr (Hn11.out.below hB) hn11b)
        rw [Hsame.out s2 (List.mem_of_getElem? hs2)] at Hput
        have HB := Lib.hid hB
        clear hs2 hB
        go_wp2_with (first
          | (go_at_call 15; refine Hput.out.mono ?_; rintro x w12 ⟨A12, n12, c12, rfl, hn12, hb12⟩; have HB2 := Lib.hid (HB.out.trans (hb12.mono HB.out.size)); have Hs := Lib.hid (sameRef_any _ _ _ _ _ _ _ _ _ hn12 (Hn11.out.below HB2.out)); rw [decide_eq_true rfl] at Hs)
          | (go_at_call 14; refine Hs.out.mono ?_; rintro x w13 ⟨rfl, hb13⟩))
        go_roundw
        case rel => exact ⟨k2 + 1, by omega, by go_num, HB2.out.trans (hb13.mono HB2.out.size)⟩
        case measure => simp [intOf]; omega
      · have hd : decide ((k2 : Int) < (n10 : Int)) = false := by simp; omega
        have hS2 : Below w7.heap.size w7 wr := HS.out.trans (hB.mono HS.out.size)
        obtain ⟨q0, q1, q2, q3, q4, q5, ql⟩ := Hy.out _ hS2
        have H0r := Lib.hid (H03.out.trans ((HX.out _ hS2).mono H03.out.size))
        have t1 : decide (c1 < m) = true := by simpa using hl1
        have t2 : decide (d1 ≤ d) = true := by simpa using hl3
        clear hB
        go_wp2_with (first
          | (go_at_call 16; (with_reducible refine (Hri2.out _ hS2).mono ?_); rintro x w14 ⟨rfl, hb14⟩)
          | (go_at_call 6; refine (HA.out _).mono ?_; rintro x w20 ⟨rfl, hb20⟩))
        go_ret
        have H1 := H0r.out.trans (hb14.mono H0r.out.size)
        exact ⟨ret_bool (by simp), H1.trans (hb20.mono H1.size)⟩
  have i1 : (0 : Int) ≤ (j : Int) := by omega
  have i2 : (j : Int) ≤ (nb2 : Int) := by omega
  have i3 : (nb2 : Int) ≤ (cb2 : Int) := by omega
  have i4 : (0 : Int) ≤ (j : Int) + 1 := by omega
  have i5 : (j : Int) + 1 ≤ (nb2 : Int) := by omega
  have i6 : (j : Int) ≤ (cb2 : Int) := by omega
  have i7 : (j : Int) + 1 ≤ (cb2 : Int) := by omega
  have i8 : IntKind.i64.wrap ((j : Int) + 1) = (j : Int) + 1 := IntWalk.i64_in _ (by omega)
  have i9 : ((j : Int) + 1).toNat = j + 1 := by omega
  have hk0 : (w4.alloc (.cells #[] 52)).drew.cell? ⟨w2.heap.size, 5, none⟩ = some (.slice (some ⟨b, o, none⟩) nb2 cb2) := (World.cell?_alloc_lt w4.drew _ ⟨w2.heap.size, 5, none⟩ (show w2.heap.size < w4.heap.size by omega)).trans p5
  have hk1 := Lib.hid (fun (w5 : World) (hb : But (fun k => some w4.heap.size = some k) (w4.drew.alloc (.cells #[] 52)) w5) => (hb.cell (p := ⟨w2.heap.size, 5, none⟩) (by simp; omega) (by simp; omega)).trans hk0)
  have hbut45 := Lib.hid (fun (w5 : World) (hb : But (fun k => some w4.heap.size = some k) (w4.drew.alloc (.cells #[] 52)) w5) => hb.below' (B := w3.heap.size) (by simp; omega) (fun i hi => by simp at hi; omega))
  have Hj1 := Lib.hid hj
  have Hzz : Hid (w2.heap.size < w4.heap.size ∧ w3.heap.size < w4.heap.size ∧ w2.heap.size ≠ w3.heap.size) := Lib.hid (by omega)
  by_cases hcap : j + 1 = cb2
  · obtain rfl : nb2 = j + 1 := by omega
    obtain rfl : cb2 = j + 1 := by omega
    clear hcap i2 i3 i5 i6 i7 i9 hm4 hm5
    have i6 : (j : Int) ≤ (j : Int) + 1 := by omega
    have i9 : ((j : Int) + 1).toNat = j + 1 := by omega
    have hm4 : j + 0 ≤ maxLen := by unfold maxLen; omega
    have hm5 : (j + 0) * 144 ≤ 140737488355328 := by omega
    have Hdr : Hid (rows.drop (j + 1) = []) := Lib.hid (List.drop_of_length_le (by have := Hrp.out.1; have := Hl2.out; omega))
    go_region_held3 (fun W => W.cell? ⟨w2.heap.size, 5, none⟩ = some (.slice (some ⟨b, o, none⟩) (j + 1) (j + 1))) (first | assumption | exact hk0 | exact hk7 _ | go_keep) (first
      | ((refine stepApp (base := w4.heap.size) (xs := []) (news := rows.take j) (by rfl) (by rfl) tyStm (by go_simp; done) hownA (by go_simp; done) hnewA HlA.out.1 HlA.out.2 hm1 hm2 hm3 ?_; intro A5 c5 w5 hown5 hbut5 hf5; have hk5 := hk1.out w5 hbut5; have hB5 := HbA.out.trans (hbut45.out w5 hbut5); have hnewB : RowsAt w5 8 (some ⟨b, o, none⟩) 0 0 [] := RowsAt_none (by unfold maxLen; omega); have Hm6 : Hid (w4.heap.size ≤ w5.heap.size) := Lib.hid (by have h := hbut5.size; simp at h; omega); have hq5 := Hq.out w5 hbut5; rw [Nat.zero_add] at hown5 ⊢))
      | ((refine stepApp (base := w4.heap.size) (xs := [] ++ rows.take j) (news := []) (by rfl) (by rfl) tyStm (by first | (go_simp; done) | (go_simp; simp) | rfl) hown5 (by go_simp; done) hnewB (by simp) (by simp) hm4 hm5 Hm6.out ?_; intro A6 c6 w6 hown6 hbut6 hf6; have hk6 := (hbut6.cell (p := ⟨w2.heap.size, 5, none⟩) (Nat.lt_of_lt_of_le Hzz.out.1 Hm6.out) (fun hi => Nat.not_le_of_lt Hzz.out.1 (names_far hown5 hi))).trans hk5; have hq6 := hq5.as_was (hbut6.block w3.heap.size (Nat.lt_of_lt_of_le Hzz.out.2.1 Hm6.out) (fun hi => Nat.not_le_of_lt Hzz.out.2.1 (names_far hown5 hi))); have z5 : w6.cell? ⟨w3.heap.size, 5, none⟩ = some (.slice (some ⟨b, o, none⟩) (j + 1) (j + 1)) := hq6.cell 5; have zf := hq6.frozen 5; have hk7 : ∀ v, (w6.setCell ⟨w3.heap.size, 5, none⟩ v).cell? ⟨w2.heap.size, 5, none⟩ = some (.slice (some ⟨b, o, none⟩) (j + 1) (j + 1)) := (fun v => (((But.refl (fun i => i = w3.heap.size) w6).setCell (p := ⟨w3.heap.size, 5, none⟩) (.inl rfl) v).cell (p := ⟨w2.heap.size, 5, none⟩) (Nat.lt_of_lt_of_le (Nat.lt_of_lt_of_le Hzz.out.1 Hm6.out) hbut6.size) Hzz.out.2.2).trans hk6))))
    obtain ⟨v7, Hv7⟩ : ∃ v, Hid (v = Value.slice A6 j c6) := ⟨_, rfl⟩
    rw [← Hv7.out]
    have hB5' : Below w3.heap.size w3 w5 := hB5
    have h56 : w4.heap.size ≤ w5.heap.size := Hm6.out
    have hB6 : Below w3.heap.size w3 w6 := hB5'.trans (hbut6.below' (B := w3.heap.size) (by have := Hzz.out; omega) (fun i hi => by have := names_far hown5 hi; have := Hzz.out; omega))
    have hB7 : Below w3.heap.size w3 (w6.setCell ⟨w3.heap.size, 5, none⟩ v7) := hB6.trans (((But.refl (fun i => i = w3.heap.size) w6).setCell (p := ⟨w3.heap.size, 5, none⟩) (.inl rfl) v7).below' hB6.size (fun i hi => Nat.le_of_eq hi.symm))
    have hq7 := hq6.stored 5 v7
    have hown7 : (w6.setCell ⟨w3.heap.size, 5, none⟩ v7).ownsRow w4.heap.size 52 8 (.slice A6 (j + 0) c6) (j + 0) (rows.take j ++ rows.drop (j + 1)).flatten := own_but (S := fun i => i = w3.heap.size) (by rw [Hdr.out]; simpa using hown6) ((But.refl (fun i => i = w3.heap.size) w6).setCell (p := ⟨w3.heap.size, 5, none⟩) (.inl rfl) v7) (fun g hg e => by
      have := names_far hown6 (k := g) (by cases A6 with | none => exact hg | some a => exact hg)
      have := Hzz.out
      omega)
    have hst := left_sts (p := p) (fun b hb hf => HF3.out _ hB7 b hb hf) hB7 Hrp.out.1 Hrp.out.2 hown7 (by have := Hrp.out.1; have := Hl2.out; simp; omega)
    have Hend : Hid (LeftAt p j w3 nm sr pt fu Ap2 np2 cp2 (w6.setCell ⟨w3.heap.size, 5, none⟩ v7)) := Lib.hid ⟨A6, _, c6, by rw [Hv7.out] at hq7 ⊢; exact hq7, hst, hB7⟩
    clear hst hown7 hq7 hB7 hB6 hB5' h56
    go_wp2_with fail
    go_meet
    exact Hend.out
  · have hcap2 : ¬ cb2 = j + 1 := fun e => hcap e.symm
    go_region_held3 (fun W => W.cell? ⟨w2.heap.size, 5, none⟩ = some (.slice (some ⟨b, o, none⟩) nb2 cb2)) (first | assumption | exact hk0 | exact hk7 _ | go_keep) (first
      | ((refine stepApp (base := w4.heap.size) (xs := []) (news := rows.take j) (by rfl) (by rfl) tyStm (by go_simp; done) hownA (by go_simp; done) hnewA HlA.out.1 HlA.out.2 hm1 hm2 hm3 ?_; intro A5 c5 w5 hown5 hbut5 hf5; have hk5 := hk1.out w5 hbut5; have hB5 := HbA.out.trans (hbut45.out w5 hbut5); have hnewB : RowsAt w5 8 (some ⟨b, o + (j + 1) * 8, none⟩) (nb2 - (j + 1)) (cb2 - (j + 1)) (rows.drop (j + 1)) := RowsAt_drop (Hrows.out _ hB5) (by omega); have Hm6 : Hid (w4.heap.size ≤ w5.heap.size) := Lib.hid (by have h := hbut5.size; simp at h; omega); have hq5 := Hq.out w5 hbut5; rw [Nat.zero_add] at hown5 ⊢))
      | ((refine stepApp (base := w4.heap.size) (xs := [] ++ rows.take j) (news := rows.drop (j + 1)) (by rfl) (by rfl) tyStm (by first | (go_simp; done) | (go_simp; simp) | rfl) hown5 (by go_simp; done) hnewB HlB.out.1 HlB.out.2 hm4 hm5 Hm6.out ?_; intro A6 c6 w6 hown6 hbut6 hf6; have hk6 := (hbut6.cell (p := ⟨w2.heap.size, 5, none⟩) (Nat.lt_of_lt_of_le Hzz.out.1 Hm6.out) (fun hi => Nat.not_le_of_lt Hzz.out.1 (names_far hown5 hi))).trans hk5; have hq6 := hq5.as_was (hbut6.block w3.heap.size (Nat.lt_of_lt_of_le Hzz.out.2.1 Hm6.out) (fun hi => Nat.not_le_of_lt Hzz.out.2.1 (names_far hown5 hi))); have z5 : w6.cell? ⟨w3.heap.size, 5, none⟩ = some (.slice (some ⟨b, o, none⟩) nb2 cb2) := hq6.cell 5; have zf := hq6.frozen 5; have hk7 : ∀ v, (w6.setCell ⟨w3.heap.size, 5, none⟩ v).cell? ⟨w2.heap.size, 5, none⟩ = some (.slice (some ⟨b, o, none⟩) nb2 cb2) := (fun v => (((But.refl (fun i => i = w3.heap.size) w6).setCell (p := ⟨w3.heap.size, 5, none⟩) (.inl rfl) v).cell (p := ⟨w2.heap.size, 5, none⟩) (Nat.lt_of_lt_of_le (Nat.lt_of_lt_of_le Hzz.out.1 Hm6.out) hbut6.size) Hzz.out.2.2).trans hk6))))
    obtain ⟨v7, Hv7⟩ : ∃ v, Hid (v = Value.slice A6 (j + (nb2 - (j + 1))) c6) := ⟨_, rfl⟩
    rw [← Hv7.out]
    have hB5' : Below w3.heap.size w3 w5 := hB5
    have h56 : w4.heap.size ≤ w5.heap.size := Hm6.out
    have hB6 : Below w3.heap.size w3 w6 := hB5'.trans (hbut6.below' (B := w3.heap.size) (by have := Hzz.out; omega) (fun i hi => by have := names_far hown5 hi; have := Hzz.out; omega))
    have hB7 : Below w3.heap.size w3 (w6.setCell ⟨w3.heap.size, 5, none⟩ v7) := hB6.trans (((But.refl (fun i => i = w3.heap.size) w6).setCell (p := ⟨w3.heap.size, 5, none⟩) (.inl rfl) v7).below' hB6.size (fun i hi => Nat.le_of_eq hi.symm))
    have hq7 := hq6.stored 5 v7
    have hown7 : (w6.setCell ⟨w3.heap.size, 5, none⟩ v7).ownsRow w4.heap.size 52 8 (.slice A6 (j + (nb2 - (j + 1))) c6) (j + (nb2 - (j + 1))) (rows.take j ++ rows.drop (j + 1)).flatten := own_but (S := fun i => i = w3.heap.size) (by simpa using hown6) ((But.refl (fun i => i = w3.heap.size) w6).setCell (p := ⟨w3.heap.size, 5, none⟩) (.inl rfl) v7) (fun g hg e => by
      have := names_far hown6 (k := g) (by cases A6 with | none => exact hg | some a => exact hg)
      have := Hzz.out
      omega)
    have hst := left_sts (p := p) (fun b hb hf => HF3.out _ hB7 b hb hf) hB7 Hrp.out.1 Hrp.out.2 hown7 (by have := Hrp.out.1; have := Hl2.out; simp; omega)
    have Hend : Hid (LeftAt p j w3 nm sr pt fu Ap2 np2 cp2 (w6.setCell ⟨w3.heap.size, 5, none⟩ v7)) := Lib.hid ⟨A6, _, c6, by rw [Hv7.out] at hq7 ⊢; exact hq7, hst, hB7⟩
    clear hst hown7 hq7 hB7 hB6 hB5' h56
    go_wp2_with fail
    go_meet
    exact Hend.out
end Go.Proofs.Ytgihhkfppnhdpaa
