/- Lock, part Q: what an ask asks for. -/
import Derived.Test.YtinpihplkikldaaLockM
import Derived.Deep.RegionHeld3
namespace Go.Proofs.Ytinpihplkikldaa
open Go.RowKit Go.Afx

set_option maxRecDepth 100000 in
theorem clone_any (A : Option Addr) (n c : Nat) (ws : List Wt) (hn : n ≤ 1000) (w : World) (hW : WAt w A n c ws) :
    Calls Try.prog 69 #[.slice A n c] w (OwnsW w ws) := by
  have hl : ws.length = n := by have := hW.len; simpa using this
  have q22 : ∀ (w : World) (a : Option Addr) (n c n' c' : Nat), (binOp .eql 22 (.slice a n c) (.slice none n' c')).run Try.prog w = .ok (.bool a.isNone) w := fun w a n c n' c' => Lib.run_eql_slice_nil w _ _ a n c n' c' Try.underlying22
  cases A with
  | none =>
    have h0 : ws = [] := by
      cases ws with
      | nil => rfl
      | cons a r =>
        obtain ⟨b, o, e, _⟩ := hW.at_ 0 (wrow a) rfl
        cases e
    subst h0
    go_enter Try.func69, Try.ntmps69
    go_wp2
    go_ret
    exact ⟨none, 0, rfl, World.ownsRow_nil _ _ _ _, Below.refl _ _⟩
  | some a =>
    have hW2 : WAt (w.alloc (.cells #[] 31)) (some a) n c ws := hW.below ((Below.refl _ _).alloc (Nat.le_refl _) _)
    have hown : (w.alloc (.cells #[] 31)).ownsRow w.heap.size 31 2 (.slice (some ⟨w.heap.size, 0, none⟩) 0 0) 0 ([] : List (List Value)).flatten := World.ownsRow_made w #[] 0 (Nat.le_refl _) (Nat.zero_le _) (by simp)
    go_enter Try.func69, Try.ntmps69
    go_wp2_with (at_builtin; refine wpList_app rfl rfl tyWant rfl hown rfl hW2 wrow_len wrow_one ?_ ?_ ?_ ?_; (unfold maxLen; omega); omega; (simp); intro A3 c3 w3 hown3 hbut3 hf3)
    go_ret
    subst hl
    refine ⟨A3, c3, by simp, ?_, ?_⟩
    · simpa [flatW] using hown3
    · refine ((Below.refl _ _).alloc (Nat.le_refl _) _).trans (hbut3.below' (by simp) (fun i hi => ?_))
      simp at hi; omega

def wantsT (T : List AskD) (id : Int) : List Wt := if findT T id < 0 then [] else match T[(findT T id).toNat]? with | some a => a.ws | none => []

set_option maxRecDepth 100000 in
set_option maxHeartbeats 1000000 in
theorem wants_any (base p : Nat) (A : Option Addr) (n c : Nat) (T : List AskD) (rows) (id : Int) (w : World) (hT : TblAt w base p A n c T rows) :
    Calls Try.prog 33 #[.pointer (some ⟨p, 0, none⟩), .int .i64 id] w (OwnsW w (wantsT T id)) := by
  have hfr := findT_range T id
  have hlT := hT.lenT
  have hn := hT.n_le
  by_cases hneg : findT T id < 0
  · have hcall := find_any base p A n c T rows id w hT
    rw [show findT T id = -1 by omega] at hcall
    have e : wantsT T id = [] := by simp [wantsT, hneg]
    rw [e]
    have Hcall := Lib.hid hcall; clear hcall hfr hlT hneg e
    go_enter Try.func33, Try.ntmps33
    go_wp2_with (go_at_call 68; refine Hcall.out.mono ?_; rintro e w1 ⟨rfl, hb1⟩)
    go_ret
    exact ⟨none, 0, rfl, World.ownsRow_nil _ _ _ _, hb1⟩
  · obtain ⟨i, Hi⟩ : ∃ i : Nat, Hid (findT T id = i) := ⟨(findT T id).toNat, Lib.hid (by omega)⟩
    have hin : i < n := by have := Hi.out; omega
    obtain ⟨g, Ai, ci, a, rfl, hbg, hgl, hgp, hTi, hi0, hi1, hi2, hwi, hsti, h1000, hfz, hrow, hapi⟩ := hT.get hin
    have e : wantsT T id = a.ws := by
      have h2 : (findT T id).toNat = i := by have := Hi.out; omega
      simp [wantsT, hneg, h2, hTi]
    rw [e]
    have hcall : ∀ W, Below w.heap.size w W → Calls Try.prog 68 #[.pointer (some ⟨p, 0, none⟩), .int .i64 id] W fun e w' => e = .returned (.int .i64 i) ∧ Below W.heap.size W w' := fun W hb => by
      have := find_any base p _ n c T rows id W (hT.below hb)
      rwa [Hi.out] at this
    have Hcall := Lib.hid hcall; clear hcall hfr hlT hneg e hrow hTi
    have hcp := hT.cell
    have hpl := hT.blk.lt
    have Hcp := Lib.hid hcp
    have Hi0 := Lib.hid hi0
    go_enter Try.func33, Try.ntmps33
    go_wp2_with (go_at_call 68; refine (Hcall.out _ (Below.refl _ _)).mono ?_; rintro e w1 ⟨rfl, hb1⟩)
    have hcp1 := (hb1.cell (p := ⟨p, 0, none⟩) hpl).trans hcp
    have hi01 := (hb1.cell (p := ⟨g, i * 3, none⟩) hgl).trans hi0
    have hp1 : p < w1.heap.size := Nat.lt_of_lt_of_le hpl hb1.size
    have hg1 : g < w1.heap.size := Nat.lt_of_lt_of_le hgl hb1.size
    clear hcp hi0 hi1 hi2
    have hbd : Below w.heap.size w w1.drew := hb1.drew
    go_region_law (first
      | (go_simp; go_at_call 68; refine (Hcall.out _ hbd).mono ?_; rintro e w2 ⟨rfl, hb2⟩; have hb12 := hbd.trans (hb2.mono hbd.size); have hi02 := (hb12.cell (p := ⟨g, i * 3, none⟩) hgl).trans Hi0.out; have hcp2 := (hb12.cell (p := ⟨p, 0, none⟩) hpl).trans Hcp.out; have hwi2 := hwi.below hb12)
      | (go_simp; go_at_call 69; refine (clone_any _ _ _ _ (by omega) _ hwi2).mono ?_; rintro e w3 ⟨A3, c3, rfl, hown3, hb3⟩))
    all_goals
      go_wp2
      go_ret
      exact ⟨A3, c3, rfl, own_base hown3 hb12.size, hb12.trans (hb3.mono hb12.size)⟩
end Go.Proofs.Ytinpihplkikldaa
