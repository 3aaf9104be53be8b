/- Syntax, part R: plain words: how many nodes there are. No program is named. -/
import Derived.Test.YtgihhkfppnhdpaaSynP
namespace Go.Afx
open Go.RowKit

def cntE : Nat → Ex → Nat
  | 0, _ => 0
  | d + 1, e => 1 + (e.args.map (cntE d)).sum
def cntS : Nat → St → Nat
  | 0, _ => 0
  | d + 1, x => 1 + (x.exprs.map (cntE d)).sum + (x.body.map (cntS d)).sum + (x.els.map (cntS d)).sum

theorem sum_map_le {α : Type} {f g : α → Nat} (h : ∀ x, f x ≤ g x) : ∀ l : List α, (l.map f).sum ≤ (l.map g).sum := by
  intro l
  induction l with
  | nil => simp
  | cons a r ih => have := h a; simp only [List.map_cons, List.sum_cons]; omega
theorem flat_cnt {α β : Type} {f : α → List β} {g : α → Nat} (h : ∀ x, (f x).length ≤ g x) (l : List α) : (l.flatMap f).length ≤ (l.map g).sum := by
  rw [List.length_flatMap]
  exact sum_map_le h l
theorem sum_take {α : Type} {f : α → Nat} {l : List α} {k : Nat} {x : α} (h : l[k]? = some x) : ((l.take k).map f).sum + f x ≤ (l.map f).sum := by
  obtain ⟨hk, rfl⟩ := List.getElem?_eq_some_iff.1 h
  have e : l = l.take k ++ l[k] :: l.drop (k + 1) := by rw [← List.drop_eq_getElem_cons hk, List.take_append_drop]
  conv => rhs; rw [e]
  simp only [List.map_append, List.sum_append, List.map_cons, List.sum_cons]
  omega

theorem srcsE_le (d : Nat) : ∀ e, (srcsE d e).length ≤ cntE d e := by
  induction d with
  | zero => intro e; simp [srcsE]
  | succ d ih =>
    intro e
    have := flat_cnt ih e.args
    rw [srcsE, cntE, List.length_append]
    split <;> simp only [List.length_cons, List.length_nil] <;> omega
theorem readsS_le (d : Nat) : ∀ x, (readsS d x).length ≤ cntS d x := by
  induction d with
  | zero => intro x; simp [readsS]
  | succ d ih =>
    intro x
    have h1 := flat_cnt (srcsE_le d) x.exprs
    have h2 := flat_cnt ih x.body
    have h3 := flat_cnt ih x.els
    rw [readsS, cntS, List.length_append, List.length_append, List.length_append]
    split <;> simp only [List.length_cons, List.length_nil] <;> omega
theorem writesS_le (d : Nat) : ∀ x, (writesS d x).length ≤ cntS d x := by
  induction d with
  | zero => intro x; simp [writesS]
  | succ d ih =>
    intro x
    have h2 := flat_cnt ih x.body
    have h3 := flat_cnt ih x.els
    rw [writesS, cntS, List.length_append, List.length_append]
    split <;> simp only [List.length_cons, List.length_nil] <;> omega
theorem emitsS_le (d : Nat) : ∀ x, (emitsS d x).length ≤ cntS d x := by
  induction d with
  | zero => intro x; simp [emitsS]
  | succ d ih =>
    intro x
    have h2 := flat_cnt ih x.body
    have h3 := flat_cnt ih x.els
    rw [emitsS, cntS, List.length_append, List.length_append]
    split <;> simp only [List.length_cons, List.length_nil] <;> omega
theorem len_cnt (d : Nat) (l : List St) : l.length ≤ (l.map (cntS (d + 1))).sum := by
  induction l with
  | nil => simp
  | cons a r ih =>
    have : 1 ≤ cntS (d + 1) a := by rw [cntS]; omega
    simp only [List.map_cons, List.sum_cons, List.length_cons]
    omega
theorem sts_cnt {F : Nat → Prop} {d : Nat} {w : World} {A : Option Addr} {n c : Nat} {l : List St} (h : StsAt F d w A n c l) : n ≤ (l.map (cntS d)).sum := by
  cases d with
  | zero =>
    rcases Nat.eq_zero_or_pos n with h0 | h0
    · omega
    · obtain ⟨b, o, r, x, _, _, _, _, _, hp, _⟩ := LsAt.get h h0
      exact hp.elim
  | succ d => rw [← LsAt.len h]; exact len_cnt d l
end Go.Afx
