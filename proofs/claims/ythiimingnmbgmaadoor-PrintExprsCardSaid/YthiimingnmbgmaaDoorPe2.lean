/- Parts of this proof, one behind the other: Read. -/
import Derived.Test.YthiimingnmbgmaaDoorPe1
import Derived.Deep.Slices
import Derived.ChangeSame
namespace Go.Afx
open Go.RowKit Go.ChangeShapes Go.WideShapes Go.Deep

section
variable {H : Type} {enc : TypeId × Value → H} {P : Program} {w : World} {base : Nat} {spare : Nat → Bool} {held : Bool}

/-- a slice that reads as data reads as rows of cells, each row as data -/
theorem rows_of_trod {t e : TypeId} {sz fuel n c : Nat} {A : Option Addr} {x : DataW H × List MemPlace} (ht : P.underlying t = some (.slice e)) (hsz : P.cellsOf e = sz) (hpos : 0 < sz)
    (h : DataW.trod enc P w base spare held fuel t [.slice A n c] = some x) :
    ∃ rows, RowsAt w sz A n c rows ∧ ∀ (k : Nat) (r : List Value), rows[k]? = some r → r.length = sz ∧ ∃ m y, DataW.trod enc P w base spare held m e r = some y := by
  rcases open_slice ht h with ⟨hcs, _⟩ | ⟨a, len, cap, m, q, D, Pl, hcs, _, hl, hm, hmm, _, hi⟩
  · simp only [List.cons.injEq, Value.slice.injEq, and_true] at hcs
    obtain ⟨rfl, rfl, rfl⟩ := hcs
    exact ⟨[], RowsAt.nil_ w sz, fun k r hr => by simp at hr⟩
  · simp only [List.cons.injEq, Value.slice.injEq, and_true] at hcs
    obtain ⟨rfl, rfl, rfl⟩ := hcs
    subst hsz
    have hle : n ≤ m := by rw [hmm]; split <;> omega
    have hall : ∀ i, ∃ r : List Value, i < n → w.cells? base (a.add (i * P.cellsOf e)) (P.cellsOf e) = some r ∧ DataW.trod enc P w base spare held q e r = some (D i, Pl i) := fun i => by
      by_cases hin : i < n
      · obtain ⟨r, h1, h2⟩ := hi i (by omega)
        exact ⟨r, fun _ => ⟨h1, h2⟩⟩
      · exact ⟨[], fun h => absurd h hin⟩
    obtain ⟨f, hf⟩ : ∃ f : Nat → List Value, ∀ i, i < n → w.cells? base (a.add (i * P.cellsOf e)) (P.cellsOf e) = some (f i) ∧ DataW.trod enc P w base spare held q e (f i) = some (D i, Pl i) := ⟨fun i => (hall i).choose, fun i => (hall i).choose_spec⟩
    clear hall
    refine ⟨(List.range n).map f, ⟨by simp, hl, hm, fun k row hk => ?_⟩, fun k r hk => ?_⟩
    · rw [List.getElem?_map] at hk
      obtain ⟨i, hik, rfl⟩ := Option.map_eq_some_iff.1 hk
      have hkn : k < n := by have := (List.getElem?_eq_some_iff.1 hik).1; simpa using this
      rw [List.getElem?_range hkn] at hik
      injection hik with hik
      subst hik
      obtain ⟨_, hcl, hat⟩ := World.cells?_some (hf k hkn).1
      obtain ⟨_, hcl0, hat0⟩ := World.cells?_some (hf 0 (by omega)).1
      have h00 := hat0 0 hpos
      rw [List.getElem?_eq_getElem (by omega), Nat.zero_mul] at h00
      have ha0 : (a.add 0).add 0 = a := by simp [Addr.add]
      rw [ha0] at h00
      obtain ⟨b, o, s⟩ := a
      have hs : s = none := by simpa using World.cell?_spot h00
      subst hs
      refine ⟨b, o, rfl, World.block_lt_of_cell? w _ h00, fun j u hu => ?_⟩
      have hj : j < P.cellsOf e := by have := (List.getElem?_eq_some_iff.1 hu).1; omega
      have hc := hat j hj
      rw [hu] at hc
      have e2 : ((⟨b, o, none⟩ : Addr).add (k * P.cellsOf e)).add j = ⟨b, o + k * P.cellsOf e + j, none⟩ := by
        unfold Addr.add
        by_cases h1 : k * P.cellsOf e = 0 <;> by_cases h2 : j = 0 <;> simp [h1, h2]
      rw [e2] at hc
      exact hc
    · rw [List.getElem?_map] at hk
      obtain ⟨i, hik, rfl⟩ := Option.map_eq_some_iff.1 hk
      have hkn : k < n := by have := (List.getElem?_eq_some_iff.1 hik).1; simpa using this
      rw [List.getElem?_range hkn] at hik
      injection hik with hik
      subst hik
      exact ⟨(World.cells?_some (hf k hkn).1).2.1, q, _, (hf k hkn).2⟩

/-- rows that are each of a shape, told by the shape -/
theorem rows_map {α : Type} (f : α → List Value) {rows : List (List Value)} (h : ∀ (k : Nat) (r : List Value), rows[k]? = some r → ∃ a, r = f a) : ∃ xs : List α, rows = xs.map f := by
  induction rows with
  | nil => exact ⟨[], rfl⟩
  | cons r rows ih =>
    obtain ⟨a, rfl⟩ := h 0 r rfl
    obtain ⟨xs, rfl⟩ := ih fun k r hr => h (k + 1) r (by simpa using hr)
    exact ⟨a :: xs, rfl⟩
end
end Go.Afx
