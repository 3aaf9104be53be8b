/- Lock, part B: the statement's own 'wants' and 'great'. -/
import Derived.Test.YtinpihplkikldaaLockA
namespace Go.Proofs.Ytinpihplkikldaa
open Go.RowKit Go.Afx

set_option maxHeartbeats 400000 in
theorem wants_ref (A A' : Option Addr) (n c n' c' : Nat) (ps qs : List Wt) (w : World) (hp : WAt w A n c ps) (hq : WAt w A' n' c' qs) :
    Calls Try.prog 13 #[.slice A n c, .slice A' n' c'] w fun e w' => e = .returned (.bool (decide (ps = qs))) ∧ ∃ k, w' = w.drewN k := by
  have hn := RowsAt.n_le hp
  have hn' := RowsAt.n_le hq
  have lp : ps.length = n := by have := hp.len; simpa using this
  have lq : qs.length = n' := by have := hq.len; simpa using this
  go_enter Try.func13, Try.ntmps13
  have Lp := Lib.hid lp; clear lp
  have Lq := Lib.hid lq; clear lq
  by_cases hnn : n = n'
  · subst hnn
    go_wp2
    go_loopw [5] (fun i wr => ∃ k : Nat, k ≤ n ∧ i = .int .i64 k ∧ ps.take k = qs.take k ∧ ∃ m, wr = w.drewN m) (fun i _ => n - (intOf i).toNat)
    case atStart => exact ⟨0, Nat.zero_le _, rfl, by simp, 0, rfl⟩
    case round =>
      obtain ⟨k, hk, rfl, hcl, m, rfl⟩ := hrel
      have Hcl := Lib.hid hcl; clear hcl
      by_cases hlt : k < n
      · obtain ⟨b, o, a, x, rfl, hb, hpk, hc0, hc1⟩ := hp.get hlt
        obtain ⟨b', o', a', x', rfl, hb', hqk, hd0, hd1⟩ := hq.get hlt
        have Hpk := Lib.hid hpk; clear hpk
        have Hqk := Lib.hid hqk; clear hqk
        by_cases he : a = a' ∧ x = x'
        · obtain ⟨rfl, rfl⟩ := he
          go_wp2
          go_quiet (fail)
          go_wp2
          go_roundw
          case rel => exact ⟨k + 1, by omega, by go_num, by rw [take_succ_of Hpk.out, take_succ_of Hqk.out, Hcl.out], _, rfl⟩
          case measure => simp [intOf]; omega
        · have Hne : Hid (ps ≠ qs) := by
            refine Lib.hid ?_
            rintro rfl
            have := Hpk.out.symm.trans Hqk.out
            simp only [Option.some.injEq, Prod.mk.injEq] at this
            exact he this
          by_cases h1 : a = a'
          · subst h1
            have hx : x ≠ x' := fun h => he ⟨rfl, h⟩
            have hx' : (x == x') = false := by simpa using hx
            clear he hx
            go_wp2
            go_quiet (fail)
            go_wp2
            go_ret
            exact ⟨ret_bool (by simp [Hne.out]), _, World.drewN_drewN ..⟩
          · have h1' : (a.toList == a'.toList) = false := by
              simp only [beq_eq_false_iff_ne]
              exact fun h => h1 (bl_inj h)
            clear he h1
            go_wp2
            go_quiet (fail)
            go_wp2
            go_ret
            exact ⟨ret_bool (by simp [Hne.out]), _, World.drewN_drewN ..⟩
      · go_wp2
        go_ret
        refine ⟨ret_bool ?_, _, rfl⟩
        have e : k = n := by omega
        have h1 := Hcl.out
        rw [e, ← Lp.out, List.take_length, Lp.out, ← Lq.out, List.take_length] at h1
        simp [h1]
  · have hb : ((n : Int) != n') = true := by simp; omega
    go_wp2
    go_ret
    refine ⟨ret_bool ?_, 0, rfl⟩
    have : ps ≠ qs := by rintro rfl; exact hnn (Lp.out.symm.trans Lq.out)
    simp [this]

/-- an act, as data -/
structure ActD where
  kind : Int
  id : Int
  more : List Int
  wants : List Wt

def IAt (w : World) (A : Option Addr) (n c : Nat) (xs : List Int) : Prop := RowsAt w 1 A n c (xs.map fun x => [.int .i64 x])

def actRow (w : World) (r : List Value) (a : ActD) : Prop :=
  ∃ A1 n1 c1 A2 n2 c2, r = [.int .i64 a.kind, .int .i64 a.id, .slice A1 n1 c1, .slice A2 n2 c2] ∧ IAt w A1 n1 c1 a.more ∧ WAt w A2 n2 c2 a.wants

def ActsAt (w : World) (A : Option Addr) (n c : Nat) (acts : List ActD) : Prop :=
  ∃ rows, RowsAt w 4 A n c rows ∧ acts.length = n ∧ ∀ (k : Nat) (a : ActD), acts[k]? = some a → ∃ r, rows[k]? = some r ∧ actRow w r a

theorem ActsAt.get {w : World} {A : Option Addr} {n c : Nat} {acts : List ActD} (h : ActsAt w A n c acts) {k : Nat} (hk : k < n) :
    ∃ b o a A1 n1 c1 A2 n2 c2, A = some ⟨b, o, none⟩ ∧ b < w.heap.size ∧ acts[k]? = some a ∧ w.cell? ⟨b, o + k * 4, none⟩ = some (.int .i64 a.kind) ∧ w.cell? ⟨b, o + k * 4 + 1, none⟩ = some (.int .i64 a.id) ∧
      w.cell? ⟨b, o + k * 4 + 2, none⟩ = some (.slice A1 n1 c1) ∧ w.cell? ⟨b, o + k * 4 + 3, none⟩ = some (.slice A2 n2 c2) ∧ IAt w A1 n1 c1 a.more ∧ WAt w A2 n2 c2 a.wants := by
  obtain ⟨rows, hr, hl, hh⟩ := h
  obtain ⟨r, hrk, A1, n1, c1, A2, n2, c2, rfl, hi, hw⟩ := hh k (acts[k]) (List.getElem?_eq_getElem (by omega))
  obtain ⟨b, o, rfl, hb, hc⟩ := hr.at_ k _ hrk
  exact ⟨b, o, acts[k], A1, n1, c1, A2, n2, c2, rfl, hb, List.getElem?_eq_getElem (by omega), by simpa using hc 0 _ rfl, hc 1 _ rfl, hc 2 _ rfl, hc 3 _ rfl, hi, hw⟩
theorem ActsAt.n_le {w : World} {A : Option Addr} {n c : Nat} {acts : List ActD} (h : ActsAt w A n c acts) : n ≤ 9223372036854775807 := by
  obtain ⟨rows, hr, _⟩ := h; exact hr.n_le

def longW (ps : List Wt) : Bool := ps.any fun p => decide (100 < p.1.size)
def great1 (a : ActD) : Bool := decide (10 < a.wants.length) || decide (10 < a.more.length) || longW a.wants
def greatL (l : List ActD) : Bool := decide (60 < l.length) || l.any great1

set_option maxHeartbeats 800000 in
theorem great_ref (A : Option Addr) (n c : Nat) (l : List ActD) (w : World) (hl : ActsAt w A n c l) :
    Calls Try.prog 9 #[.slice A n c] w fun e w' => e = .returned (.bool (greatL l)) ∧ w = w' := by
  have hn := ActsAt.n_le hl
  have ll : l.length = n := by obtain ⟨_, _, h, _⟩ := hl; exact h
  have Ll := Lib.hid ll; clear ll
  go_enter Try.func9, Try.ntmps9
  by_cases h60 : 60 < n
  · go_wp2
    go_ret
    refine ⟨ret_bool ?_, rfl⟩
    simp [greatL, Ll.out, h60]
  · go_wp2
    go_loop [3] (fun i => ∃ k : Nat, k ≤ n ∧ i = .int .i64 k ∧ (l.take k).any great1 = false) (fun i => n - (intOf i).toNat)
    case atStart => exact ⟨0, Nat.zero_le _, rfl, by simp⟩
    case round =>
      obtain ⟨k, hk, rfl, hcl⟩ := hrel
      have Hcl := Lib.hid hcl; clear hcl
      by_cases hlt : k < n
      · obtain ⟨b, o, a, A1, n1, c1, A2, n2, c2, rfl, hb, hak, hc0, hc1, hc2, hc3, hi, hw⟩ := hl.get hlt
        have Hak := Lib.hid hak; clear hak
        have l1 : a.more.length = n1 := by have := hi.len; simpa using this
        have l2 : a.wants.length = n2 := by have := hw.len; simpa using this
        have b1 := RowsAt.n_le hi
        have b2 := RowsAt.n_le hw
        have L1 := Lib.hid l1; clear l1
        have L2 := Lib.hid l2; clear l2
        by_cases h10 : 10 < n2
        · have Hg : Hid (greatL l = true) := Lib.hid (by unfold greatL; rw [any_of_get great1 Hak.out (by simp [great1, L2.out, h10])]; simp)
          go_wp2
          go_ret
          exact ⟨ret_bool Hg.out.symm, rfl⟩
        by_cases h11 : 10 < n1
        · have Hg : Hid (greatL l = true) := Lib.hid (by unfold greatL; rw [any_of_get great1 Hak.out (by simp [great1, L1.out, h11])]; simp)
          go_wp2
          go_ret
          exact ⟨ret_bool Hg.out.symm, rfl⟩
        go_wp2
        go_loop [4] (fun i => ∃ k' : Nat, k' ≤ n2 ∧ i = .int .i64 k' ∧ longW (a.wants.take k') = false) (fun i => n2 - (intOf i).toNat)
        case atStart => exact ⟨0, Nat.zero_le _, rfl, by simp [longW]⟩
        case round =>
          obtain ⟨k', hk', rfl, hcl'⟩ := hrel
          have Hcl' := Lib.hid hcl'; clear hcl'
          by_cases hlt' : k' < n2
          · obtain ⟨b', o', s, x, rfl, hb', hpk, hd0, hd1⟩ := hw.get hlt'
            have Hpk := Lib.hid hpk; clear hpk
            by_cases hs : 100 < s.size
            · have Hg : Hid (greatL l = true) := Lib.hid (by unfold greatL; rw [any_of_get great1 Hak.out (by unfold great1 longW; rw [any_of_get _ Hpk.out (by simpa using hs)]; simp)]; simp)
              go_wp2
              go_ret
              exact ⟨ret_bool Hg.out.symm, rfl⟩
            · go_wp2
              go_round
              case rel => exact ⟨k' + 1, by omega, by go_num, by unfold longW; rw [any_take_succ _ Hpk.out]; have := Hcl'.out; unfold longW at this; rw [this]; simpa using hs⟩
              case measure => simp [intOf]; omega
          · go_wp2
            go_round
            case rel =>
              refine ⟨k + 1, by omega, by go_num, ?_⟩
              rw [any_take_succ _ Hak.out, Hcl.out]
              have e : k' = n2 := by omega
              have h1 := Hcl'.out
              rw [e, ← L2.out, List.take_length] at h1
              simp [great1, h1, L1.out, L2.out]
              omega
            case measure => simp [intOf]; omega
      · go_wp2
        go_ret
        refine ⟨ret_bool ?_, rfl⟩
        have e : k = n := by omega
        have h1 := Hcl.out
        rw [e, ← Ll.out, List.take_length] at h1
        simp [greatL, h1, Ll.out]
        omega
end Go.Proofs.Ytinpihplkikldaa
