/- Lock, part A: comparing, clashing: contracts of the leaves. -/
import Derived.Test.YtinpihplkikldaaProg
import Derived.Test.YtinpihplkikldaaLockP
import Derived.WalkSpells
import Derived.WalkLawsBesides
import Derived.Deep.QuietTactic
import Derived.BigQuiet
import Derived.Outline
import Derived.Lib.Hide
namespace Go.Proofs.Ytinpihplkikldaa
open Go.RowKit Go.Afx

def WAt (w : World) (A : Option Addr) (n c : Nat) (ws : List Wt) : Prop := RowsAt w 2 A n c (ws.map wrow)

theorem WAt.get {w : World} {A : Option Addr} {n c : Nat} {ws : List Wt} (h : WAt w A n c ws) {k : Nat} (hk : k < n) :
    ∃ b o a x, A = some ⟨b, o, none⟩ ∧ b < w.heap.size ∧ ws[k]? = some (a, x) ∧ w.cell? ⟨b, o + k * 2, none⟩ = some (.string a) ∧ w.cell? ⟨b, o + k * 2 + 1, none⟩ = some (.bool x) := by
  have hl := h.len
  rw [List.length_map] at hl
  have e : ws[k]? = some (ws[k].1, ws[k].2) := List.getElem?_eq_getElem (by omega)
  obtain ⟨b, o, rfl, hb, h0, h1⟩ := RowsAt.two (u := .string ws[k].1) (v := .bool ws[k].2) h (k := k) (by rw [List.getElem?_map, e]; rfl)
  exact ⟨b, o, _, _, rfl, hb, e, h0, h1⟩
theorem WAt.below {w w' : World} {A : Option Addr} {n c : Nat} {ws : List Wt} (h : WAt w A n c ws) (hb : Below w.heap.size w w') : WAt w' A n c ws := RowsAt.below h hb

theorem isNaN_any (a : ByteArray) (w : World) :
    Calls Try.prog 76 #[.string a] w fun e w' => e = .returned (.bool false) ∧ w = w' := by
  go_enter Try.func76, Try.ntmps76
  go_wp2
  go_ret
  simp

/-- how two strings compare -/
def cmpS (a b : ByteArray) : Int := if Op.bytesLess a.toList b.toList then -1 else if a.toList == b.toList then 0 else 1

theorem compare_any (a b : ByteArray) (w : World) :
    Calls Try.prog 42 #[.string a, .string b] w fun e w' => e = .returned (.int .i64 (cmpS a b)) ∧ w = w' := by
  go_enter Try.func42, Try.ntmps42
  go_wp2_with (go_at_call 76; refine (isNaN_any _ _).mono ?_; rintro e w' ⟨rfl, rfl⟩)
  all_goals (go_ret; simp_all [cmpS])

/-- do two wants clash -/
def clashW (p q : Wt) : Bool := p.1.toList == q.1.toList && (p.2 || q.2)

theorem clash1_any (a b : ByteArray) (x y : Bool) (w : World) :
    Calls Try.prog 11 #[.agg #[.string a, .bool x], .agg #[.string b, .bool y]] w fun e w' => e = .returned (.bool (clashW (a, x) (b, y))) ∧ Below w.heap.size w w' := by
  go_enter Try.func11, Try.ntmps11
  go_wp2
  all_goals (go_ret; exact ⟨ret_bool (by simp_all [clashW]), ((Below.refl _ _).alloc (Nat.le_refl _) _).alloc (by simp) _⟩)

/-- two lists, as the statement's own function asks -/
def clashL (ps qs : List Wt) : Bool := ps.any fun p => qs.any fun q => clashW p q

theorem clashL_snoc (ps qs : List Wt) (p : Wt) : clashL (ps ++ [p]) qs = (clashL ps qs || qs.any (clashW p)) := by simp [clashL]
theorem any_snoc (qs : List Wt) (p q : Wt) : (qs ++ [q]).any (clashW p) = (qs.any (clashW p) || clashW p q) := by simp

theorem take_succ_of {α : Type} {l : List α} {k : Nat} {x : α} (h : l[k]? = some x) : l.take (k + 1) = l.take k ++ [x] := by
  obtain ⟨hk, rfl⟩ := List.getElem?_eq_some_iff.1 h
  exact List.take_succ_eq_append_getElem hk

theorem any_take_succ {α : Type} {l : List α} {k : Nat} {x : α} (f : α → Bool) (h : l[k]? = some x) : (l.take (k + 1)).any f = ((l.take k).any f || f x) := by
  rw [take_succ_of h]; simp
theorem any_of_get {α : Type} {l : List α} {k : Nat} {x : α} (f : α → Bool) (h : l[k]? = some x) (hf : f x = true) : l.any f = true := by
  rw [List.any_eq_true]; exact ⟨x, List.mem_of_getElem? h, hf⟩

set_option maxHeartbeats 400000 in
theorem clash_ref (A A' : Option Addr) (n c n' c' : Nat) (ps qs : List Wt) (w : World) (hp : WAt w A n c ps) (hq : WAt w A' n' c' qs) :
    Calls Try.prog 12 #[.slice A n c, .slice A' n' c'] w fun e w' => e = .returned (.bool (clashL ps qs)) ∧ ∃ k, w' = w.drewN k := by
  have hn := RowsAt.n_le hp
  have hn' := RowsAt.n_le hq
  have lp : ps.length = n := by have := hp.len; simpa using this
  have lq : qs.length = n' := by have := hq.len; simpa using this
  go_enter Try.func12, Try.ntmps12
  have Lp := Lib.hid lp; clear lp
  have Lq := Lib.hid lq; clear lq
  go_wp2
  go_loopw [5] (fun i wr => ∃ k : Nat, k ≤ n ∧ i = .int .i64 k ∧ clashL (ps.take k) qs = false ∧ ∃ m, wr = w.drewN m) (fun i _ => n - (intOf i).toNat)
  case atStart => exact ⟨0, Nat.zero_le _, rfl, by simp [clashL], 0, rfl⟩
  case round =>
    obtain ⟨k, hk, rfl, hcl, m, rfl⟩ := hrel
    have Hcl := Lib.hid hcl; clear hcl
    by_cases hlt : k < n
    · obtain ⟨b, o, a, x, rfl, hb, hpk, hc0, hc1⟩ := hp.get hlt
      have Hpk := Lib.hid hpk; clear hpk
      go_wp2
      go_loopw [6] (fun i wr => ∃ k' : Nat, k' ≤ n' ∧ i = .int .i64 k' ∧ (qs.take k').any (clashW (a, x)) = false ∧ ∃ m, wr = w.drewN m) (fun i _ => n' - (intOf i).toNat)
      case atStart => exact ⟨0, Nat.zero_le _, rfl, by simp, m, rfl⟩
      case round =>
        obtain ⟨k', hk', rfl, hcl', m', rfl⟩ := hrel
        have Hcl' := Lib.hid hcl'; clear hcl'
        by_cases hlt' : k' < n'
        · obtain ⟨b', o', a', x', rfl, hb', hqk, hd0, hd1⟩ := hq.get hlt'
          have Hqk := Lib.hid hqk; clear hqk
          have Hsn := Lib.hid (take_succ_of Hqk.out)
          by_cases hcw : clashW (a, x) (a', x') = true
          · have Hcw := Lib.hid hcw
            simp only [clashW, Bool.and_eq_true, Bool.or_eq_true] at hcw
            obtain ⟨he, hxy⟩ := hcw
            have Hw : Hid (clashL ps qs = true) := by
              refine Lib.hid ?_
              unfold clashL
              rw [List.any_eq_true]
              refine ⟨(a, x), List.mem_of_getElem? Hpk.out, ?_⟩
              rw [List.any_eq_true]
              exact ⟨(a', x'), List.mem_of_getElem? Hqk.out, Hcw.out⟩
            clear Hcw Hsn
            cases x
            · have hx' : x' = true := by simpa using hxy
              subst hx'
              clear hxy
              go_wp2
              go_quiet (fail)
              go_wp2
              go_ret
              exact ⟨ret_bool Hw.out.symm, _, World.drewN_drewN ..⟩
            · clear hxy
              go_wp2
              go_quiet (fail)
              go_wp2
              go_ret
              exact ⟨ret_bool Hw.out.symm, _, World.drewN_drewN ..⟩
          · have hcw : clashW (a, x) (a', x') = false := by simpa using hcw
            have Hnext : Hid ((qs.take (k' + 1)).any (clashW (a, x)) = false) := by
              refine Lib.hid ?_
              rw [Hsn.out, any_snoc, Hcl'.out, hcw]; rfl
            clear Hsn
            by_cases he : (a.toList == a'.toList) = true
            · have hx : x = false ∧ x' = false := by simpa [clashW, he] using hcw
              obtain ⟨rfl, rfl⟩ := hx
              clear hcw
              go_wp2
              go_quiet (fail)
              go_wp2
              go_roundw
              case rel => exact ⟨k' + 1, by omega, by go_num, Hnext.out, _, rfl⟩
              case measure => simp [intOf]; omega
            · have he' : (a.toList == a'.toList) = false := by simpa using he
              clear hcw he
              go_wp2
              go_quiet (fail)
              go_wp2
              go_roundw
              case rel => exact ⟨k' + 1, by omega, by go_num, Hnext.out, _, rfl⟩
              case measure => simp [intOf]; omega
        · have Hall : Hid (qs.any (clashW (a, x)) = false) := by
            have e : k' = n' := by omega
            have h1 := Hcl'.out
            rw [e, ← Lq.out, List.take_length] at h1
            exact Lib.hid h1
          go_wp2
          go_roundw
          case rel => exact ⟨k + 1, by omega, by go_num, by rw [take_succ_of Hpk.out, clashL_snoc, Hcl.out, Hall.out]; rfl, _, rfl⟩
          case measure => simp [intOf]; omega
    · go_wp2
      go_ret
      refine ⟨ret_bool ?_, _, rfl⟩
      have e : k = n := by omega
      have h1 := Hcl.out
      rw [e, ← Lp.out, List.take_length] at h1
      exact h1.symm
end Go.Proofs.Ytinpihplkikldaa
