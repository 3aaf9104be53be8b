/- Memory: many cells laid in a row of the call's own; an element taken out of it. -/
import Derived.Test.YtinpihplkikldaaMem
import Derived.Laws.IdiomCopy
import Derived.Lib.SliceRun
namespace Go.Afx
open Go.RowKit

def layA (cs : Array Value) : Nat → List Value → Array Value
  | _, [] => cs
  | o, v :: r => layA (cs.setIfInBounds o v) (o + 1) r

theorem layA_size : ∀ (vs : List Value) (o : Nat) (cs : Array Value), (layA cs o vs).size = cs.size
  | [], _, _ => rfl
  | v :: r, o, cs => by rw [layA, layA_size r]; simp

theorem layA_get : ∀ (vs : List Value) (o : Nat) (cs : Array Value) (j : Nat), o + vs.length ≤ cs.size → (layA cs o vs)[j]? = if j < o then cs[j]? else if j < o + vs.length then vs[j - o]? else cs[j]?
  | [], o, cs, j, _ => by simp [layA]; omega
  | v :: r, o, cs, j, h => by
    simp only [List.length_cons] at h
    rw [layA, layA_get r (o + 1) _ j (by simp; omega)]
    by_cases h1 : j < o
    · rw [if_pos (by omega), if_pos h1, Array.getElem?_setIfInBounds]
      simp; omega
    · rw [if_neg h1]
      by_cases h2 : j = o
      · subst h2
        rw [if_pos (by omega), if_pos (by simp), Array.getElem?_setIfInBounds]
        simp; omega
      · rw [if_neg (by omega)]
        simp only [List.length_cons]
        by_cases h3 : j < o + (r.length + 1)
        · rw [if_pos (by omega), if_pos h3, show j - o = (j - (o + 1)) + 1 by omega]; simp
        · rw [if_neg (by omega), if_neg h3, Array.getElem?_setIfInBounds]
          simp; omega

theorem IsBlk.setCells {t : TypeId} {g : Nat} : ∀ (vs : List Value) (o : Nat) (w : World) (cs : Array Value), IsBlk w g t cs → IsBlk (w.setCells g o vs) g t (layA cs o vs)
  | [], _, _, _, h => h
  | v :: r, o, _, _, h => IsBlk.setCells r (o + 1) _ _ (h.stored o v)

theorem But.setCells {S : Nat → Prop} {a : World} {g : Nat} (hg : S g ∨ a.heap.size ≤ g) : ∀ (vs : List Value) (o : Nat) (w : World), But S a w → But S a (w.setCells g o vs)
  | [], _, _, h => h
  | v :: r, o, _, h => But.setCells hg r (o + 1) _ (h.setCell (p := ⟨g, o, none⟩) hg v)

theorem run_zero {P : Program} {t : TypeId} {i : TypeInfo} {z : Value} (h : P.info? t = some i) (hz : i.zero = some z) (w : World) : (zeroValue t).run P w = .ok z w := by
  simp [zeroValue, typeInfo, h, hz]

/-- the first k of a row of the call's own -/
theorem own_first {w : World} {base : Nat} {e : TypeId} {sz : Nat} {A : Option Addr} {n c : Nat} {xs : List (List Value)} (h : w.ownsRow base e sz (.slice A n c) n xs.flatten) (hr : ∀ r ∈ xs, r.length = sz) (hx : xs.length = n) (k : Nat) (hk : k ≤ n) :
    w.ownsRow base e sz (.slice A k c) k (xs.take k).flatten := by
  have hl : (xs.take k).flatten.length = k * sz := by rw [flatten_length _ sz (fun r h => hr r (List.mem_of_mem_take h)), List.length_take]; congr 1; omega
  refine ⟨hl, ?_⟩
  rcases h.2 with ⟨hv, h0⟩ | ⟨g, cap, cur, hv, hb, hg, hnc, hcm, hcs, ht⟩
  · injection hv with h1 h2 h3
    subst h1 h2 h3
    obtain rfl : k = 0 := by omega
    exact .inl ⟨rfl, rfl⟩
  · injection hv with h1 h2 h3
    subst h1 h3
    refine .inr ⟨g, _, cur, rfl, hb, hg, by omega, hcm, hcs, ?_⟩
    have e : xs.flatten = (xs.take k).flatten ++ (xs.drop k).flatten := by rw [← List.flatten_append, List.take_append_drop]
    have e2 : (cur.toList.take (n * sz)).take (k * sz) = cur.toList.take (k * sz) := by rw [List.take_take, Nat.min_eq_left (Nat.mul_le_mul_right _ hk)]
    rw [← e2, ht, e, List.take_append_of_le_length (by omega), List.take_of_length_le (by omega)]

/-- what stands behind place i laid from i on -/
theorem own_moved {w : World} {base : Nat} {e : TypeId} {sz g n c : Nat} {xs : List (List Value)} (h : w.ownsRow base e sz (.slice (some ⟨g, 0, none⟩) n c) n xs.flatten) (hr : ∀ r ∈ xs, r.length = sz) (hx : xs.length = n) (i : Nat) (hi : i < n) (zs : List Value) (hz : zs.length = sz) :
    ((w.setCells g (i * sz) (xs.drop (i + 1)).flatten).setCells g ((n - 1) * sz) zs).ownsRow base e sz (.slice (some ⟨g, 0, none⟩) (n - 1) c) (n - 1) (xs.eraseIdx i).flatten := by
  have hnews : (xs.drop (i + 1)).flatten.length = (n - 1 - i) * sz := by rw [flatten_length _ sz (fun r h => hr r (List.mem_of_mem_drop h)), List.length_drop]; congr 1; omega
  have hfl : xs.flatten.length = n * sz := by rw [flatten_length xs sz hr, hx]
  have her : (xs.eraseIdx i).flatten = (xs.take i).flatten ++ (xs.drop (i + 1)).flatten := by rw [List.eraseIdx_eq_take_drop_succ, List.flatten_append]
  have htl : (xs.take i).flatten.length = i * sz := by rw [flatten_length _ sz (fun r h => hr r (List.mem_of_mem_take h)), List.length_take]; congr 1; omega
  have hsum : i * sz + (n - 1 - i) * sz = (n - 1) * sz := by rw [← Nat.add_mul]; congr 1; omega
  have hn1 : (n - 1) * sz + sz = n * sz := by rw [← Nat.succ_mul]; congr 1; omega
  refine ⟨by rw [her, List.length_append, htl, hnews, hsum], .inr ?_⟩
  rcases h.2 with ⟨hv, h0⟩ | ⟨g', cap, cur, hv, hb, hg, hnc, hcm, hcs, ht⟩
  · cases hv
  · simp only [Value.slice.injEq, Option.some.injEq, Addr.mk.injEq, and_true, true_and] at hv
    obtain ⟨rfl, rfl⟩ := hv
    have hblk : IsBlk w g e cur := hg
    have hcap : n * sz ≤ c * sz := Nat.mul_le_mul_right _ hnc
    have h2 := IsBlk.setCells zs ((n - 1) * sz) _ _ (IsBlk.setCells (xs.drop (i + 1)).flatten (i * sz) _ _ hblk)
    refine ⟨g, c, _, rfl, hb, h2, by omega, hcm, by rw [layA_size, layA_size, hcs], ?_⟩
    apply List.ext_getElem?
    intro j
    rw [her, List.getElem?_take]
    by_cases hj : j < (n - 1) * sz
    · rw [if_pos hj, Array.getElem?_toList, layA_get _ _ _ _ (by rw [layA_size, hcs]; omega), if_pos hj, layA_get _ _ _ _ (by rw [hcs]; omega)]
      by_cases h1 : j < i * sz
      · rw [if_pos h1, List.getElem?_append_left (by omega)]
        have e3 : cur[j]? = xs.flatten[j]? := by rw [← ht, List.getElem?_take, if_pos (by omega), Array.getElem?_toList]
        have e4 : xs.flatten = (xs.take i).flatten ++ (xs.drop i).flatten := by rw [← List.flatten_append, List.take_append_drop]
        rw [e3, e4, List.getElem?_append_left (by omega)]
      · rw [if_neg h1, if_pos (by omega), List.getElem?_append_right (by omega), htl]
    · rw [if_neg hj, List.getElem?_eq_none (by rw [List.length_append]; omega)]
end Go.Afx
