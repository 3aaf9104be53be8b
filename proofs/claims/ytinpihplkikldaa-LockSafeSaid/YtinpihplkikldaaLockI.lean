/- Lock, part I: clash of two lists that rise; who is ready. -/
import Derived.Test.YtinpihplkikldaaLockH
namespace Go.Proofs.Ytinpihplkikldaa
open Go.RowKit Go.Afx

def Strict (l : List Wt) : Prop := l.Pairwise fun p q => ltW p q = true

theorem clashW_ne {p q : Wt} (h : p.1 ≠ q.1) : clashW p q = false := by
  have : (p.1.toList == q.1.toList) = false := by
    cases hb : p.1.toList == q.1.toList
    · rfl
    · exact absurd (eq_of_str.1 hb) h
  simp [clashW, this]
theorem ne_of_lt {p q : Wt} (h : ltW p q = true) : p.1 ≠ q.1 := fun e => by rw [ltW_irrefl _ _ e] at h; cases h

theorem clash_less {p q : Wt} {ps qs : List Wt} (hq : Strict (q :: qs)) (h : ltW p q = true) : clashL (p :: ps) (q :: qs) = clashL ps (q :: qs) := by
  have : ((q :: qs).any fun x => clashW p x) = false := by
    rw [List.any_eq_false]
    intro x hx
    rw [clashW_ne (p := p) (q := x) ?_]
    · simp
    · rcases List.mem_cons.1 hx with rfl | hx
      · exact ne_of_lt h
      · exact ne_of_lt (less_trans h ((List.pairwise_cons.1 hq).1 x hx))
  unfold clashL
  rw [List.any_cons, this]; rfl
theorem clashW_comm (p q : Wt) : clashW p q = clashW q p := by
  unfold clashW
  rw [Bool.or_comm]
  congr 1
  rw [Bool.eq_iff_iff, beq_iff_eq, beq_iff_eq]; exact eq_comm
theorem clashL_comm (ps qs : List Wt) : clashL ps qs = clashL qs ps := by
  rw [Bool.eq_iff_iff]
  simp only [clashL, List.any_eq_true]
  constructor
  · rintro ⟨p, hp, q, hq, h⟩; exact ⟨q, hq, p, hp, by rw [clashW_comm]; exact h⟩
  · rintro ⟨p, hp, q, hq, h⟩; exact ⟨q, hq, p, hp, by rw [clashW_comm]; exact h⟩
theorem clash_greater {p q : Wt} {ps qs : List Wt} (hp : Strict (p :: ps)) (h : ltW q p = true) : clashL (p :: ps) (q :: qs) = clashL (p :: ps) qs := by
  rw [clashL_comm, clash_less hp h, clashL_comm]
theorem clash_same {p q : Wt} {ps qs : List Wt} (hp : Strict (p :: ps)) (hq : Strict (q :: qs)) (h : p.1 = q.1) (hc : clashW p q = false) : clashL (p :: ps) (q :: qs) = clashL ps qs := by
  have h1 : ((q :: qs).any fun x => clashW p x) = false := by
    rw [List.any_eq_false]
    intro x hx
    rcases List.mem_cons.1 hx with rfl | hx
    · rw [hc]; simp
    · rw [clashW_ne (p := p) (q := x) (by rw [h]; exact ne_of_lt ((List.pairwise_cons.1 hq).1 x hx))]; simp
  have h2 : ∀ x ∈ ps, ((q :: qs).any fun y => clashW x y) = qs.any fun y => clashW x y := fun x hx => by
    rw [List.any_cons, clashW_ne (p := x) (q := q) (by rw [← h]; exact (ne_of_lt ((List.pairwise_cons.1 hp).1 x hx)).symm)]; rfl
  unfold clashL
  rw [List.any_cons, h1, Bool.false_or]
  rw [Bool.eq_iff_iff, List.any_eq_true, List.any_eq_true]
  constructor
  · rintro ⟨x, hx, hy⟩; exact ⟨x, hx, by rw [← h2 x hx]; exact hy⟩
  · rintro ⟨x, hx, hy⟩; exact ⟨x, hx, by rw [h2 x hx]; exact hy⟩
theorem clash_yes {p q : Wt} {ps qs : List Wt} (hc : clashW p q = true) : clashL (p :: ps) (q :: qs) = true := by simp [clashL, hc]

theorem drop_of {α : Type} {l : List α} {k : Nat} {x : α} (h : l[k]? = some x) : l.drop k = x :: l.drop (k + 1) := by
  obtain ⟨hk, rfl⟩ := List.getElem?_eq_some_iff.1 h
  exact List.drop_eq_getElem_cons hk
theorem strict_drop {l : List Wt} (h : Strict l) (k : Nat) : Strict (l.drop k) := List.Pairwise.sublist (List.drop_sublist _ _) h

theorem cmpS_lt {a b : ByteArray} (h : Op.bytesLess a.toList b.toList = true) : cmpS a b = -1 := by simp [cmpS, h]
theorem cmpS_eq {a b : ByteArray} (h : a = b) : cmpS a b = 0 := by subst h; simp [cmpS, less_irrefl]
theorem cmpS_gt {a b : ByteArray} (h : Op.bytesLess b.toList a.toList = true) : cmpS a b = 1 := by
  have h1 := less_asymm h
  have h2 : (a.toList == b.toList) = false := by
    cases hb : a.toList == b.toList
    · rfl
    · rw [eq_of_str.1 hb, less_irrefl] at h; cases h
  simp [cmpS, h1, h2]

theorem quiet_same {P : Program} {f : FuncId} {args : Array Value} {w W : World} {n : Nat} {v : Value} (hW : W = w.drewN n)
    (h : Calls P f args W fun e w' => e = .returned v ∧ W = w') : Calls P f args W fun e w'' => e = .returned v ∧ ∃ m, w'' = w.drewN m :=
  h.mono fun _ _ ⟨he, hm⟩ => ⟨he, n, by rw [← hm, hW]⟩

set_option maxRecDepth 100000 in
set_option maxHeartbeats 2000000 in
theorem clashM_any (A A' : Option Addr) (n c n' c' : Nat) (ps qs : List Wt) (hps : Strict ps) (hqs : Strict qs) (w : World) (hp : WAt w A n c ps) (hq : WAt w A' n' c' qs) :
    Calls Try.prog 100 #[.agg #[.slice A n c], .agg #[.slice A' n' c']] w fun e w' => e = .returned (.bool (clashL ps qs)) ∧ Below w.heap.size w w' := by
  have hn := RowsAt.n_le hp
  have hn' := RowsAt.n_le hq
  have lp : ps.length = n := by have := hp.len; simpa using this
  have lq : qs.length = n' := by have := hq.len; simpa using this
  have Lp := Lib.hid lp; clear lp
  have Lq := Lib.hid lq; clear lq
  obtain ⟨w0, Hw0⟩ : ∃ w0, Hid (w0 = (w.alloc (.cells #[.slice A n c] 111)).alloc (.cells #[.slice A' n' c'] 111)) := ⟨_, rfl⟩
  have hb0 : Below w.heap.size w w0 := by rw [Hw0.out]; exact ((Below.refl _ _).alloc (Nat.le_refl _) _).alloc (by simp) _
  have hz0 : w0.heap.size = w.heap.size + 2 := by rw [Hw0.out]; simp
  have hz0' : w.heap.size < w0.heap.size ∧ w.heap.size + 1 < w0.heap.size := by omega
  clear hz0
  have hc0 : w0.cell? ⟨w.heap.size, 0, none⟩ = some (.slice A n c) := by rw [Hw0.out]; simp [go_sem]
  have hc0' : w0.cell? ⟨w.heap.size + 1, 0, none⟩ = some (.slice A' n' c') := by rw [Hw0.out]; simp [go_sem]
  go_enter Try.func100, Try.ntmps100
  go_wp2
  rw [← Hw0.out]
  go_loopw [5, 6] (fun i k wr => ∃ (x y : Nat), x ≤ n ∧ y ≤ n' ∧ i = .int .i64 x ∧ k = .int .i64 y ∧ clashL (ps.drop x) (qs.drop y) = clashL ps qs ∧ Below w0.heap.size w0 wr) (fun i k _ => (n - (intOf i).toNat) + (n' - (intOf k).toNat))
  case atStart => exact ⟨0, 0, Nat.zero_le _, Nat.zero_le _, rfl, rfl, rfl, Below.refl _ _⟩
  case round =>
    obtain ⟨x, y, hx, hy, rfl, rfl, hcl, hb⟩ := hrel
    have Hcl := Lib.hid hcl; clear hcl
    have hd0 : wr.cell? ⟨w.heap.size, 0, none⟩ = some (.slice A n c) := (hb.cell (p := ⟨w.heap.size, 0, none⟩) hz0'.1).trans hc0
    have hd0' : wr.cell? ⟨w.heap.size + 1, 0, none⟩ = some (.slice A' n' c') := (hb.cell (p := ⟨w.heap.size + 1, 0, none⟩) hz0'.2).trans hc0'
    have hbs : Below w.heap.size w wr := hb0.trans (hb.mono (by omega))
    by_cases hxl : x < n
    · by_cases hyl : y < n'
      · obtain ⟨b, o, a, xa, rfl, hbl, hpk, hf0, hf1⟩ := (hp.below hbs).get hxl
        obtain ⟨b', o', a', xb, rfl, hbl', hqk, hg0, hg1⟩ := (hq.below hbs).get hyl
        have hst := hb.size
        have hs1 : w.heap.size < wr.heap.size := by omega
        have hs2 : w.heap.size + 1 < wr.heap.size := by omega
        have Hp := Lib.hid (drop_of hpk)
        have Hq := Lib.hid (drop_of hqk)
        have Hsp := Lib.hid (strict_drop hps x)
        have Hsq := Lib.hid (strict_drop hqs y)
        rw [Hp.out] at Hsp
        rw [Hq.out] at Hsq
        rw [Hp.out, Hq.out] at Hcl
        clear hpk hqk
        by_cases hlt : Op.bytesLess a.toList a'.toList = true
        · have hcm := cmpS_lt hlt
          have Hn : Hid (clashL (ps.drop (x + 1)) (qs.drop y) = clashL ps qs) := Lib.hid (by rw [← Hcl.out, clash_less (p := (a, xa)) (q := (a', xb)) Hsq.out hlt, ← Hq.out])
          clear hlt
          go_wp2
          go_quiet ((go_at_call 42; exact quiet_same rfl (compare_any _ _ _)))
          go_wp2
          go_roundw
          case rel => exact ⟨x + 1, y, by omega, by omega, by go_num, rfl, Hn.out, below_drewN hb _⟩
          case measure => simp [intOf]; omega
        by_cases hgt : Op.bytesLess a'.toList a.toList = true
        · have hcm := cmpS_gt hgt
          have Hn : Hid (clashL (ps.drop x) (qs.drop (y + 1)) = clashL ps qs) := Lib.hid (by rw [← Hcl.out, clash_greater (p := (a, xa)) (q := (a', xb)) Hsp.out hgt, ← Hp.out])
          clear hlt hgt
          go_wp2
          go_quiet ((go_at_call 42; exact quiet_same rfl (compare_any _ _ _)))
          go_wp2
          go_roundw
          case rel => exact ⟨x, y + 1, by omega, by omega, rfl, by go_num, Hn.out, below_drewN hb _⟩
          case measure => simp [intOf]; omega
        have hsame : a = a' := bl_inj (less_total (by simpa using hlt) (by simpa using hgt))
        clear hlt hgt
        have hcm := cmpS_eq hsame
        have Hsame := Lib.hid hsame; clear hsame
        by_cases hcw : clashW (a, xa) (a', xb) = true
        · have Hn : Hid (clashL ps qs = true) := Lib.hid (by rw [← Hcl.out, clash_yes hcw])
          go_wp2
          go_quiet ((go_at_call 42; exact quiet_same rfl (compare_any _ _ _)))
          go_wp2
          go_region_held3 (fun w' => w'.cell? ⟨w.heap.size, 0, none⟩ = some (.slice (some ⟨b, o, none⟩) n c) ∧ w'.cell? ⟨w.heap.size + 1, 0, none⟩ = some (.slice (some ⟨b', o', none⟩) n' c') ∧ w'.cell? ⟨b, o + x * 2, none⟩ = some (.string a) ∧ w'.cell? ⟨b, o + x * 2 + 1, none⟩ = some (.bool xa) ∧ w'.cell? ⟨b', o' + y * 2, none⟩ = some (.string a') ∧ w'.cell? ⟨b', o' + y * 2 + 1, none⟩ = some (.bool xb) ∧ b < w'.heap.size ∧ b' < w'.heap.size ∧ w.heap.size < w'.heap.size ∧ w.heap.size + 1 < w'.heap.size) ((first | (simp [*]; done) | ((repeat' apply And.intro) <;> (first | (rw [hcc2 _ _ (by assumption)]; assumption) | (exact Nat.lt_of_lt_of_le (by assumption) hsz2) | (simp [*]; done)))))
            (first | (go_at_call 11; refine (clash1_any _ _ _ _ _).mono ?_; rintro e w' ⟨rfl, hb1⟩; obtain ⟨hcc, _⟩ := old_reads hb1; have hsz := hb1.size; have hbel : Below wr.heap.size wr w' := ⟨hb1.os, hb1.tape, hb1.output, hb1.size, hb1.block⟩; obtain ⟨hcc2, _⟩ := old_reads hbel; have hsz2 := hbel.size))
          go_wp2
          go_ret
          exact ⟨ret_bool (by rw [Hn.out]), hbs.trans (hbel.mono (by omega))⟩
        · have hcw : clashW (a, xa) (a', xb) = false := by simpa using hcw
          have Hn : Hid (clashL (ps.drop (x + 1)) (qs.drop (y + 1)) = clashL ps qs) := Lib.hid (by rw [← Hcl.out, clash_same (p := (a, xa)) (q := (a', xb)) Hsp.out Hsq.out Hsame.out hcw])
          go_wp2
          go_quiet ((go_at_call 42; exact quiet_same rfl (compare_any _ _ _)))
          go_wp2
          go_region_held3 (fun w' => w'.cell? ⟨w.heap.size, 0, none⟩ = some (.slice (some ⟨b, o, none⟩) n c) ∧ w'.cell? ⟨w.heap.size + 1, 0, none⟩ = some (.slice (some ⟨b', o', none⟩) n' c') ∧ w'.cell? ⟨b, o + x * 2, none⟩ = some (.string a) ∧ w'.cell? ⟨b, o + x * 2 + 1, none⟩ = some (.bool xa) ∧ w'.cell? ⟨b', o' + y * 2, none⟩ = some (.string a') ∧ w'.cell? ⟨b', o' + y * 2 + 1, none⟩ = some (.bool xb) ∧ b < w'.heap.size ∧ b' < w'.heap.size ∧ w.heap.size < w'.heap.size ∧ w.heap.size + 1 < w'.heap.size) ((first | (simp [*]; done) | ((repeat' apply And.intro) <;> (first | (rw [hcc2 _ _ (by assumption)]; assumption) | (exact Nat.lt_of_lt_of_le (by assumption) hsz2) | (simp [*]; done)))))
            (first | (go_at_call 11; refine (clash1_any _ _ _ _ _).mono ?_; rintro e w' ⟨rfl, hb1⟩; obtain ⟨hcc, _⟩ := old_reads hb1; have hsz := hb1.size; have hbel : Below wr.heap.size wr w' := ⟨hb1.os, hb1.tape, hb1.output, hb1.size, hb1.block⟩; obtain ⟨hcc2, _⟩ := old_reads hbel; have hsz2 := hbel.size))
          go_wp2
          go_roundw
          case rel => exact ⟨x + 1, y + 1, by omega, by omega, by go_num, by go_num, Hn.out, hb.trans (hbel.mono hb.size)⟩
          case measure => simp [intOf]; omega
      · go_wp2
        go_ret
        refine ⟨ret_bool ?_, hbs⟩
        rw [← Hcl.out, List.drop_of_length_le (l := qs) (by rw [Lq.out]; omega)]
        simp [clashL]
    · go_wp2
      go_ret
      refine ⟨ret_bool ?_, hbs⟩
      rw [← Hcl.out, List.drop_of_length_le (l := ps) (by rw [Lp.out]; omega)]
      simp [clashL]
end Go.Proofs.Ytinpihplkikldaa
