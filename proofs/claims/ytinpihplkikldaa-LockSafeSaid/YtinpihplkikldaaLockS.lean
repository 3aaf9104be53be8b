/- Lock, part S: who holds, sorted. -/
import Derived.Test.YtinpihplkikldaaLockR
import Derived.Test.YtinpihplkikldaaShelfI
import Derived.Sort.OwnSortedInts
namespace Go.Proofs.Ytinpihplkikldaa
open Go.RowKit Go.Afx Go.Sort

def sortedI (xs : List Int) : List Int := xs.mergeSort fun x y => decide (x ≤ y)
theorem sortedI_length (xs : List Int) : (sortedI xs).length = xs.length := List.length_mergeSort _
theorem sortedI_perm (xs : List Int) : (sortedI xs).Perm xs := List.mergeSort_perm _ _

theorem flat_irow (xs : List Int) : (xs.map irow).flatten = xs.map (Value.int .i64) := by
  induction xs with
  | nil => rfl
  | cons x xs ih => rw [List.map_cons, List.flatten_cons, ih]; rfl

theorem sort_any (base : Nat) (A : Option Addr) (n c : Nat) (xs : List Int) (w : World) (hn : xs.length = n) (hbig : n ≤ 100000) (hown : w.ownsRow base 3 1 (.slice A n c) n (xs.map irow).flatten) :
    Calls Try.prog 67 #[.slice A n c] w fun e w' => e = .returned (.tuple #[]) ∧ w'.ownsRow base 3 1 (.slice A n c) n ((sortedI xs).map irow).flatten ∧ Below base w w' := by
  subst hn
  rcases hown.2 with ⟨hv, h0⟩ | ⟨g, cap, cur, hv, hbg, hg, hnc, hcm, hcs, htk⟩
  · injection hv with h1 h2 h3
    subst h1 h3
    have hx : xs = [] := List.eq_nil_of_length_eq_zero h0
    subst hx
    refine (AnyM.slices_Sort_int_none Try.sortI none 0 w).mono ?_
    rintro e w' ⟨rfl, rfl⟩
    exact ⟨rfl, by rw [show sortedI [] = [] by simp [sortedI]]; exact hown, Below.refl _ _⟩
  · injection hv with h1 h2 h3
    subst h1 h3
    have hlt : g < w.heap.size := (Array.getElem?_eq_some_iff.1 hg).1
    have htk' : cur.toList.take xs.length = xs.map (Value.int .i64) := by rw [← flat_irow, ← htk, Nat.mul_one]
    refine (AnyM.slices_Sort_int Try.sortI g 0 c xs w (holds_of_blockI hg htk') hlt (by omega)).mono ?_
    rintro e w' ⟨rfl, k, os, rfl⟩
    refine ⟨rfl, ?_, ?_⟩
    · have h := ownsRow_sortedI (n := k) (os := os) (sortedI_length xs) hbg hg hnc hcm (by rw [hcs])
      rw [flat_irow]; exact h
    · exact (But.grown (But.refl (fun k => k = g) w) (grownBy_sortedI _) (fun k hk => by cases hk; exact .inl rfl)).below' (by omega) (fun i hi => by subst hi; exact hbg)

theorem idsT_length (T : List AskD) (pr : Nat → Bool) : (idsT T pr).length ≤ T.length := by
  rw [idsT, List.length_map, ← List.length_zipIdx (l := T) (i := 0)]
  exact List.length_filter_le _ _

theorem holdL_any (base p : Nat) (A : Option Addr) (n c : Nat) (T : List AskD) (rows) (hbig : n ≤ 100000) (w : World) (hT : TblAt w base p A n c T rows) :
    Calls Try.prog 32 #[.pointer (some ⟨p, 0, none⟩)] w (OwnsI w (sortedI (idsT T (heldT T)))) := by
  have hb1 : Below w.heap.size w (w.alloc (.cells #[.pointer (some ⟨p, 0, none⟩)] 59)) := (Below.refl _ _).alloc (Nat.le_refl _) _
  have hT1 := hT.below hb1
  have hq : (w.alloc (.cells #[.pointer (some ⟨p, 0, none⟩)] 59)).cell? ⟨w.heap.size, 0, none⟩ = some (.pointer (some ⟨p, 0, none⟩)) := by simp [go_sem]
  have hcall := ids_hold base p A n c T rows w.heap.size (heldT T) hbig _ hT1 (holdC_any base p A n c T rows _ _ hT1 hq)
  have Hcall := Lib.hid hcall; clear hcall
  obtain ⟨xs, Hx⟩ : ∃ xs, Hid (idsT T (heldT T) = xs) := ⟨_, rfl⟩
  rw [Hx.out] at Hcall ⊢
  obtain ⟨m, Hm⟩ : ∃ m, Hid (xs.length = m) := ⟨_, rfl⟩
  have hmb : m ≤ 100000 := by have h1 := idsT_length T (heldT T); rw [Hx.out, Hm.out, hT.lenT] at h1; omega
  go_enter Try.func32, Try.ntmps32
  go_wp2_with (first
    | (go_at_call 65; refine Hcall.out.mono ?_; rintro e w' ⟨A1, c1, rfl, hown, hb⟩; rw [Hm.out] at hown ⊢)
    | (go_at_call 67; refine (sort_any _ A1 m c1 xs _ Hm.out hmb hown).mono ?_; rintro e w2 ⟨rfl, hown2, hb2⟩))
  go_ret
  have hl : (sortedI xs).length = m := by rw [sortedI_length, Hm.out]
  refine ⟨A1, c1, by rw [hl]; rfl, by rw [hl]; exact own_base hown2 (by simp), (hb1.trans (hb.mono (by simp))).trans (hb2.mono (by simp))⟩
end Go.Proofs.Ytinpihplkikldaa
