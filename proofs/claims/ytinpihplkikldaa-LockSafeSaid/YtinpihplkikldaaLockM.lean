/- Lock, part M: the document's example. -/
import Derived.Test.YtinpihplkikldaaLockL
namespace Go.Proofs.Ytinpihplkikldaa
open Go.RowKit Go.Afx

def aS : ByteArray := ⟨#[97]⟩
def exT : List AskD := [⟨[(aS, false)], 1, false⟩, ⟨[(aS, true)], 2, false⟩, ⟨[(aS, false)], 3, false⟩]
theorem ask1 : askT [] 1 [(aS, false)] = (0, [⟨[(aS, false)], 1, false⟩]) := by kernel_rfl
theorem ask2 : askT [⟨[(aS, false)], 1, false⟩] 2 [(aS, true)] = (0, [⟨[(aS, false)], 1, false⟩, ⟨[(aS, true)], 2, false⟩]) := by kernel_rfl
theorem ask3 : askT [⟨[(aS, false)], 1, false⟩, ⟨[(aS, true)], 2, false⟩] 3 [(aS, false)] = (0, exT) := by kernel_rfl
theorem exReady : idsT exT (readyT exT) = [1] := by kernel_rfl
theorem exWait : idsT exT (fun k => !heldT exT k) = [1, 2, 3] := by kernel_rfl
theorem exGrant3 : grantT exT [3] = (18, exT) := by kernel_rfl
theorem exGrant1 : (grantT exT [1]).1 = 0 := by kernel_rfl

theorem exLen : exT.length = 3 := rfl

theorem TblAt.footLt {w : World} {base p n c : Nat} {A : Option Addr} {T : List AskD} {rows : List (List Value)} (h : TblAt w base p A n c T rows) : ∀ i, foot p A i → base ≤ i ∧ i < w.heap.size := by
  intro i hi
  rcases hi with rfl | hi
  · exact ⟨h.hp, h.blk.lt⟩
  · cases A with
    | none => cases hi
    | some a => simp at hi; subst hi; exact h.own.lt a.block rfl
theorem TblAt.footBelow {w w' : World} {base p n c : Nat} {A : Option Addr} {T : List AskD} {rows : List (List Value)} (h : TblAt w base p A n c T rows) (hbut : But (foot p A) w w') : Below base w w' :=
  hbut.below' (by have := h.hp; have := h.blk.lt; omega) (fun i hi => (h.footLt i hi).1)

theorem ask_lit {T T' : List AskD} {id : Int} {s : ByteArray} {x : Bool} (h : askT T id [(s, x)] = (0, T')) {w : World} {base p n c g : Nat} {A : Option Addr} {rows : List (List Value)} (hT : TblAt w base p A n c T rows) (hn : T.length ≤ 100000) (hg : g = w.heap.size) :
    Calls Try.prog 38 #[.pointer (some ⟨p, 0, none⟩), .int .i64 id, .slice (some ⟨g, 0, none⟩) 1 1] (w.alloc (.cells #[.string s, .bool x] 31)) (Moved base p A T' (.int .i64 0) (w.alloc (.cells #[.string s, .bool x] 31))) := by
  have := ask_any base p A n c T rows id (some ⟨g, 0, none⟩) 1 1 [(s, x)] (by have := hT.lenT; omega) (by simp) _ (hT.below ((Below.refl _ _).alloc (Nat.le_refl _) _)) (one_new 31 s x hg)
  rw [h] at this
  exact this

theorem grant_lit {T T' : List AskD} {id e : Int} (h : grantT T [id] = (e, T')) {w : World} {base p n c g : Nat} {A : Option Addr} {rows : List (List Value)} (hT : TblAt w base p A n c T rows) (hg : g = w.heap.size) :
    Calls Try.prog 37 #[.pointer (some ⟨p, 0, none⟩), .slice (some ⟨g, 0, none⟩) 1 1] (w.alloc (.cells #[.int .i64 id] 3)) (Moved base p A T' (.int .i64 e) (w.alloc (.cells #[.int .i64 id] 3))) := by
  have := grant_any base p A n c T rows (some ⟨g, 0, none⟩) 1 1 [id] _ (hT.below ((Below.refl _ _).alloc (Nat.le_refl _) _)) (RowsAt.lit' (T := 3) #[.int .i64 id] ([id].map irow) 1 hg rfl irow_len rfl (by unfold maxLen; omega)) (fun a ha _ hf => by
    injection ha with ha
    subst ha
    have := hT.footLt _ hf
    simp at this; omega)
  rw [h] at this
  exact this

set_option maxRecDepth 100000 in
set_option maxHeartbeats 4000000 in
theorem awake_any (w : World) : Calls Try.prog 10 #[] w fun e w' => e = .returned (.bool true) ∧ Below w.heap.size w w' := by
  have hT0 := TblAt.new w w.heap.size (Nat.le_refl _)
  have hb0 : Below w.heap.size w (w.alloc (.cells #[.slice none 0 0] 104)) := (Below.refl _ _).alloc (Nat.le_refl _) _
  go_enter Try.func10, Try.ntmps10
  go_wp2_with (go_at_call 30; refine (new_any _).mono ?_; rintro e w1 ⟨rfl, rfl⟩)
  refine (ask_lit ask1 hT0 (by simp) (by simp)).mono ?_
  rintro e w2 ⟨A2, n2, c2, r2, rfl, hT2, hbut2, hf2⟩
  have hb2 : Below w.heap.size w w2 := hb0.trans (((Below.refl _ _).alloc (by simp) _).trans ((hT0.below ((Below.refl _ _).alloc (Nat.le_refl _) _)).footBelow hbut2))
  clear hbut2 hf2 hb0 hT0
  go_wp2_with fail
  refine (ask_lit ask2 hT2 (by simp) rfl).mono ?_
  rintro e w3 ⟨A3, n3, c3, r3, rfl, hT3, hbut3, hf3⟩
  have hb3 : Below w.heap.size w w3 := hb2.trans (((Below.refl _ _).alloc hb2.size _).trans ((hT2.below ((Below.refl _ _).alloc (Nat.le_refl _) _)).footBelow hbut3))
  clear hbut3 hf3 hb2 hT2
  go_wp2_with fail
  refine (ask_lit ask3 hT3 (by simp) rfl).mono ?_
  rintro e w4 ⟨A4, n4, c4, r4, rfl, hT4, hbut4, hf4⟩
  have hb4 : Below w.heap.size w w4 := hb3.trans (((Below.refl _ _).alloc hb3.size _).trans ((hT3.below ((Below.refl _ _).alloc (Nat.le_refl _) _)).footBelow hbut4))
  clear hbut4 hf4 hb3 hT3
  have hn4 : n4 ≤ 100000 := by have := hT4.lenT; rw [exLen] at this; omega
  go_wp2_with fail
  have hr := readyL_any _ _ _ _ _ _ _ hn4 w4 hT4
  rw [exReady] at hr
  refine hr.mono ?_
  clear hr
  rintro e w5 ⟨A5, c5, rfl, hown5, hb5⟩
  obtain ⟨g5, cap5, hA5, hg5, hl5⟩ := hown5.form (by simp)
  simp only [Value.slice.injEq] at hA5
  obtain ⟨rfl, _, rfl⟩ := hA5
  have hc5 : w5.cell? ⟨g5, 0, none⟩ = some (.int .i64 1) := hown5.cellAt 0 (by simp)
  have hT5 := hT4.below hb5
  have hb5' := hb4.trans (hb5.mono hb4.size)
  clear hT4 hb4 hb5
  go_wp2_with fail
  have hw := waitL_any _ _ _ _ _ _ _ hn4 _ hT5
  rw [exWait] at hw
  refine hw.mono ?_
  clear hw
  rintro e w6 ⟨A6, c6, rfl, hown6, hb6⟩
  have hT6 := hT5.below hb6
  have hb6' := hb5'.trans (hb6.mono hb5'.size)
  clear hT5 hb6 hown6 hown5 hc5
  go_wp2_with fail
  refine (grant_lit exGrant3 hT6 rfl).mono ?_
  rintro e w7 ⟨A7, n7, c7, r7, rfl, hT7, hbut7, hf7⟩
  have hb7 : Below w.heap.size w w7 := hb6'.trans (((Below.refl _ _).alloc hb6'.size _).trans ((hT6.below ((Below.refl _ _).alloc (Nat.le_refl _) _)).footBelow hbut7))
  clear hbut7 hf7 hb6' hT6
  go_wp2_with fail
  have hg1 : grantT exT [1] = (0, (grantT exT [1]).2) := Prod.ext exGrant1 rfl
  refine (grant_lit hg1 hT7 rfl).mono ?_
  clear hg1
  rintro e w8 ⟨A8, n8, c8, r8, rfl, hT8, hbut8, hf8⟩
  have hb8 : Below w.heap.size w w8 := hb7.trans (((Below.refl _ _).alloc hb7.size _).trans ((hT7.below ((Below.refl _ _).alloc (Nat.le_refl _) _)).footBelow hbut8))
  go_wp2_with fail
  go_ret
  exact ⟨rfl, hb8⟩
end Go.Proofs.Ytinpihplkikldaa
