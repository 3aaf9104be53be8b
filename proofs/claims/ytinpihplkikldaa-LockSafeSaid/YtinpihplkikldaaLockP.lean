/- Lock: plain laws on lists of wants; no program. -/
import Derived.Test.YtinpihplkikldaaMem
namespace Go.Proofs.Ytinpihplkikldaa
open Go.RowKit Go.Afx

abbrev Wt := ByteArray × Bool
def wrow (p : Wt) : List Value := [.string p.1, .bool p.2]
def flatW (ws : List Wt) : List Value := (ws.map wrow).flatten

theorem bl_inj {a b : ByteArray} (h : a.toList = b.toList) : a = b := WideShapes.bytes_inj (by rw [← ByteArray.toList_eq, ← ByteArray.toList_eq, h])

theorem flatW_append (a b : List Wt) : flatW (a ++ b) = flatW a ++ flatW b := by simp [flatW]
theorem flatW_cons (a : ByteArray) (x : Bool) (b : List Wt) : flatW ((a, x) :: b) = .string a :: .bool x :: flatW b := by simp [flatW, wrow]
theorem flatW_length (a : List Wt) : (flatW a).length = a.length * 2 := by
  unfold flatW
  rw [flatten_length _ 2 (by intro r hr; obtain ⟨p, _, rfl⟩ := List.mem_map.1 hr; rfl), List.length_map]

theorem flatW_swap (P R : List Wt) (a b : ByteArray) (x y : Bool) (j : Nat) (hj : j = P.length + 1) :
    ((((flatW (P ++ (b, y) :: (a, x) :: R)).set (j * 2) (.string b)).set (j * 2 + 1) (.bool y)).set ((j - 1) * 2) (.string a)).set ((j - 1) * 2 + 1) (.bool x) = flatW (P ++ (a, x) :: (b, y) :: R) := by
  subst hj
  have hl := flatW_length P
  rw [flatW_append, flatW_append, flatW_cons, flatW_cons, flatW_cons, flatW_cons]
  rw [List.set_append_right _ _ (by omega), List.set_append_right _ _ (by omega), List.set_append_right _ _ (by omega), List.set_append_right _ _ (by omega)]
  have e1 : (P.length + 1) * 2 - (flatW P).length = 2 := by omega
  have e2 : (P.length + 1) * 2 + 1 - (flatW P).length = 3 := by omega
  have e3 : (P.length + 1 - 1) * 2 - (flatW P).length = 0 := by omega
  have e4 : (P.length + 1 - 1) * 2 + 1 - (flatW P).length = 1 := by omega
  rw [e1, e2, e3, e4]
  rfl

theorem own_swap {w : World} {base g n c j : Nat} {T : TypeId} {P R : List Wt} {a b : ByteArray} {x y : Bool}
    (h : w.ownsRow base T 2 (.slice (some ⟨g, 0, none⟩) n c) n (flatW (P ++ (b, y) :: (a, x) :: R))) (hj : j = P.length + 1) :
    ((((w.setCell ⟨g, j * 2, none⟩ (.string b)).setCell ⟨g, j * 2 + 1, none⟩ (.bool y)).setCell ⟨g, (j - 1) * 2, none⟩ (.string a)).setCell ⟨g, (j - 1) * 2 + 1, none⟩ (.bool x)).ownsRow base T 2 (.slice (some ⟨g, 0, none⟩) n c) n (flatW (P ++ (a, x) :: (b, y) :: R)) := by
  have h1 := (h.stored (j * 2) (.string b)).1
  have h2 := (h1.stored (j * 2 + 1) (.bool y)).1
  have h3 := (h2.stored ((j - 1) * 2) (.string a)).1
  have h4 := (h3.stored ((j - 1) * 2 + 1) (.bool x)).1
  rw [flatW_swap P R a b x y j hj] at h4
  exact h4

theorem flatW_at (P R : List Wt) (a : ByteArray) (x : Bool) (j : Nat) (hj : j = P.length) : (flatW (P ++ (a, x) :: R))[j * 2]? = some (.string a) ∧ (flatW (P ++ (a, x) :: R))[j * 2 + 1]? = some (.bool x) := by
  subst hj
  have hl := flatW_length P
  rw [flatW_append, flatW_cons, List.getElem?_append_right (by omega), List.getElem?_append_right (by omega)]
  have e3 : P.length * 2 - (flatW P).length = 0 := by omega
  have e4 : P.length * 2 + 1 - (flatW P).length = 1 := by omega
  rw [e3, e4]
  exact ⟨rfl, rfl⟩

theorem flatW_set2 (P R : List Wt) (a b : ByteArray) (x y : Bool) (j : Nat) (hj : j = P.length) :
    ((flatW (P ++ (b, y) :: R)).set (j * 2) (.string a)).set (j * 2 + 1) (.bool x) = flatW (P ++ (a, x) :: R) := by
  subst hj
  have hl := flatW_length P
  rw [flatW_append, flatW_append, flatW_cons, flatW_cons, List.set_append_right _ _ (by omega), List.set_append_right _ _ (by omega)]
  have e3 : P.length * 2 - (flatW P).length = 0 := by omega
  have e4 : P.length * 2 + 1 - (flatW P).length = 1 := by omega
  rw [e3, e4]; rfl
theorem own_set2 {w : World} {base g n c j : Nat} {T : TypeId} {P R : List Wt} {a b : ByteArray} {x y : Bool}
    (h : w.ownsRow base T 2 (.slice (some ⟨g, 0, none⟩) n c) n (flatW (P ++ (b, y) :: R))) (hj : j = P.length) :
    ((w.setCell ⟨g, j * 2, none⟩ (.string a)).setCell ⟨g, j * 2 + 1, none⟩ (.bool x)).ownsRow base T 2 (.slice (some ⟨g, 0, none⟩) n c) n (flatW (P ++ (a, x) :: R)) := by
  have h1 := (h.stored (j * 2) (.string a)).1
  have h2 := (h1.stored (j * 2 + 1) (.bool x)).1
  rw [flatW_set2 P R a b x y j hj] at h2
  exact h2
theorem own_set1 {w : World} {base g n c j : Nat} {T : TypeId} {P R : List Wt} {b : ByteArray} {x y : Bool}
    (h : w.ownsRow base T 2 (.slice (some ⟨g, 0, none⟩) n c) n (flatW (P ++ (b, y) :: R))) (hj : j = P.length) :
    (w.setCell ⟨g, j * 2 + 1, none⟩ (.bool x)).ownsRow base T 2 (.slice (some ⟨g, 0, none⟩) n c) n (flatW (P ++ (b, x) :: R)) := by
  have h2 := (h.stored (j * 2 + 1) (.bool x)).1
  have e : (flatW (P ++ (b, y) :: R)).set (j * 2 + 1) (.bool x) = flatW (P ++ (b, x) :: R) := by
    subst hj
    have hl := flatW_length P
    rw [flatW_append, flatW_append, flatW_cons, flatW_cons, List.set_append_right _ _ (by omega)]
    have e4 : P.length * 2 + 1 - (flatW P).length = 1 := by omega
    rw [e4]; rfl
  rw [e] at h2
  exact h2

/-- not after: by their names -/
def ltW (p q : Wt) : Bool := Op.bytesLess p.1.toList q.1.toList
def leW (p q : Wt) : Prop := ltW q p = false

theorem less_irrefl : ∀ l, Op.bytesLess l l = false
  | [] => rfl
  | a :: l => by simp [Op.bytesLess, less_irrefl l]
theorem less_trans : ∀ {x y z}, Op.bytesLess x y = true → Op.bytesLess y z = true → Op.bytesLess x z = true
  | _, [], _, h, _ => by cases ‹List UInt8› <;> simp [Op.bytesLess] at h
  | _, _ :: _, [], _, h => by simp [Op.bytesLess] at h
  | [], _ :: _, _ :: _, _, _ => rfl
  | a :: x, b :: y, c :: z, h, k => by
    simp only [Op.bytesLess, Bool.or_eq_true, decide_eq_true_eq, Bool.and_eq_true, beq_iff_eq] at h k ⊢
    rcases h with h | ⟨rfl, h⟩
    · rcases k with k | ⟨rfl, k⟩
      · exact .inl (UInt8.lt_trans h k)
      · exact .inl h
    · rcases k with k | ⟨rfl, k⟩
      · exact .inl k
      · exact .inr ⟨rfl, less_trans h k⟩
theorem less_total : ∀ {x y}, Op.bytesLess x y = false → Op.bytesLess y x = false → x = y
  | [], [], _, _ => rfl
  | [], _ :: _, h, _ => by simp [Op.bytesLess] at h
  | _ :: _, [], _, h => by simp [Op.bytesLess] at h
  | a :: x, b :: y, h, k => by
    simp only [Op.bytesLess, Bool.or_eq_false_iff, decide_eq_false_iff_not, Bool.and_eq_false_iff, beq_eq_false_iff_ne] at h k
    have hab : a = b := by
      have h1 := h.1; have k1 := k.1
      rw [UInt8.lt_iff_toNat_lt] at h1 k1
      exact UInt8.toNat_inj.1 (by omega)
    subst hab
    rw [less_total (h.2.resolve_left (fun e => e rfl)) (k.2.resolve_left (fun e => e rfl))]
theorem less_asymm {x y} (h : Op.bytesLess x y = true) : Op.bytesLess y x = false := by
  cases hb : Op.bytesLess y x
  · rfl
  · have := less_trans h hb; rw [less_irrefl] at this; cases this
theorem le_trans_less {x y z} (h : Op.bytesLess y x = false) (k : Op.bytesLess z y = false) : Op.bytesLess z x = false := by
  cases hb : Op.bytesLess z x
  · rfl
  · cases hy : Op.bytesLess x y
    · have := less_total h hy; subst this; rw [hb] at k; cases k
    · rw [less_trans hb hy] at k; cases k

theorem leW_trans {p q r : Wt} (h : leW p q) (k : leW q r) : leW p r := le_trans_less h k
theorem leW_of_lt {p q : Wt} (h : ltW p q = true) : leW p q := less_asymm h
theorem leW_refl (p : Wt) : leW p p := less_irrefl _

theorem ins_sorted {P R : List Wt} {x : Wt} (h : (P ++ R).Pairwise leW) (hR : ∀ r ∈ R, leW x r) (hP : ∀ p ∈ P, leW p x) : (P ++ x :: R).Pairwise leW := by
  rw [List.pairwise_append] at h ⊢
  refine ⟨h.1, List.pairwise_cons.2 ⟨hR, h.2.1⟩, fun a ha b hb => ?_⟩
  rcases List.mem_cons.1 hb with rfl | hb
  · exact hP a ha
  · exact h.2.2 a ha b hb
theorem last_le {P : List Wt} {y x : Wt} (h : (P ++ [y]).Pairwise leW) (hy : leW y x) : ∀ p ∈ P ++ [y], leW p x := by
  rw [List.pairwise_append] at h
  intro p hp
  rcases List.mem_append.1 hp with hp | hp
  · exact leW_trans (h.2.2 p hp y (by simp)) hy
  · rw [List.mem_singleton.1 hp]; exact hy
end Go.Proofs.Ytinpihplkikldaa
