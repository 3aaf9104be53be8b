/- Parts of this proof, one behind the other: RtG, RtH. -/
import Derived.Test.YtjpiedpmnnepgaaGreatDoorPz39
set_option maxRecDepth 1000000
set_option maxHeartbeats 40000000
namespace Go.Afx
open Go.RowKit
def sepsK (l : List (List Key)) : List Key := l.flatMap fun x => sgK [44] :: x
def joinK : List (List Key) → List Key
 | [] => []
 | a :: r => a ++ sepsK r
def rowsKx (d : Nat) (name src : ByteArray) : List Ex → List Key
 | [] => []
 | a :: _ => rowsK name src a.op a.n (tokE d a)
def setK (d : Nat) (x : ByteArray × Ex) : List Key := idK x.1 :: sgK [61] :: tokE d x.2
def firstK (d : Nat) : List Ex → List Key
 | [] => []
 | a :: _ => tokE d a
def exprsK (d : Nat) (es : List Ex) : List Key := joinK (es.map (tokE d))
def blockK (f : St → List Key) (l : List St) : List Key := sgK [123] :: (l.flatMap f ++ [sgK [125]])
def plainK (d : Nat) (op : Int) (name src : ByteArray) (cols : List ByteArray) (exprs : List Ex) : List Key :=
 if op = 1 then nmK [108, 101, 116] :: idK name :: sgK [61] :: exprsK d exprs
 else if op = 2 then nmK [115, 101, 116] :: idK name :: sgK [61] :: exprsK d exprs
 else if op = 3 then nmK [105, 110, 115, 101, 114, 116] :: idK src :: sgK [40] :: (exprsK d exprs ++ [sgK [41]])
 else if op = 8 then nmK [101, 109, 105, 116] :: idK src :: sgK [40] :: (exprsK d exprs ++ [sgK [41]])
 else if op = 4 then nmK [117, 112, 100, 97, 116, 101] :: (rowsKx d name src exprs ++ (nmK [115, 101, 116] :: joinK ((cols.zip exprs.tail).map (setK d))))
 else if op = 5 then nmK [100, 101, 108, 101, 116, 101] :: rowsKx d name src exprs
 else if op = 9 then nmK [97, 98, 111, 114, 116] :: exprsK d exprs
 else nmK [114, 101, 112, 108, 121] :: exprsK d exprs
def limitK (n : Int) : List Key := if 0 < n then [nmK [108, 105, 109, 105, 116], (1, str (decS n), n)] else []
def tokS : Nat → St → List Key
 | 0, _ => []
 | d + 1, x =>
  if x.op = 6 then nmK [102, 111, 114] :: (rowsKx d x.name x.src x.exprs ++ (limitK x.n ++ blockK (tokS d) x.body))
  else if x.op = 7 then nmK [105, 102] :: (firstK d x.exprs ++ (blockK (tokS d) x.body ++ (if x.els = [] then [] else nmK [101, 108, 115, 101] :: blockK (tokS d) x.els)))
  else plainK d x.op x.name x.src x.cols x.exprs ++ [sgK [59]]
def kindK (k : Int) : Key := nmK (kindT k)
def paramK (c : Co) : List Key := [idK c.name, kindK c.kind]
def tokP (d : Nat) (p : Pr) : List Key :=
 nmK [112, 114, 111, 99] :: idK p.name :: sgK [40] :: (joinK (p.params.map paramK) ++ (sgK [41] :: ((if noS p.part then [] else [nmK [111, 110], idK p.part]) ++ ((if noS p.src then [] else [nmK [102, 114, 111, 109], idK p.src]) ++ ((if p.fuel = 100 then [] else [nmK [102, 117, 101, 108], (1, str (decS p.fuel), p.fuel)]) ++ blockK (tokS d) p.body)))))
theorem headK_cons (k : Key) (r : List Key) : headK (k :: r) = k := rfl
theorem str_inj {a b : List UInt8} (h : str a = str b) : a = b := by
 unfold str at h
 injection h with h
 exact (Array.mk.inj h)
theorem nmK_says (a b : List UInt8) : keySays (nmK a) (str b) = decide (a = b) := by
 unfold keySays nmK
 by_cases h : a = b
 ·subst h; simp
 ·have : str a ≠ str b := fun e => h (str_inj e)
  simp [this, h]
theorem expr1_at {d : Nat} {e : Ex} (hb : builtE d e = true) {W : Wds} {i : Nat} {k : Int} {rest : List Key} (hA : At W i (tokE d e ++ rest)) (hn : NoOp 1 rest) (h0 : 0 ≤ k) (hk : k + 2 * (dptE d e : Int) ≤ 61) : expr1 W (stK i k) = (e, stK (i + (tokE d e).length) k) := by
 have := fuel_lt hA
 exact expr_at (parse_back d e hb 1 (by omega) (by omega)) hA (by omega) hn h0 hk
theorem where1_at {d : Nat} {a : Ex} (hb : builtE d a = true) {W : Wds} {i : Nat} {k : Int} {rest : List Key} (hA : At W i (whereK a.op a.n (tokE d a) ++ rest)) (hn : NoOp 1 rest) (hw : keySays (headK rest) (str [119, 104, 101, 114, 101]) = false) (h0 : 0 ≤ k) (hk : k + 2 * (dptE d a : Int) ≤ 61) :
  whereP W (expr1 W) (stK i k) = (a, stK (i + (whereK a.op a.n (tokE d a)).length) k) := by
 have := fuel_lt hA
 exact where_at (parse_back d a hb 1 (by omega) (by omega)) hb hA (by omega) hn hw h0 hk
theorem list_at {α : Type} {W : Wds} {tk : α → List Key} {one : PSt → α × PSt} {k : Int} {P : List Key → Prop} (hP : ∀ r, P (sgK [44] :: r)) : ∀ (xs : List α), (∀ x ∈ xs, ∀ i r, At W i (tk x ++ r) → P r → one (stK i k) = (x, stK (i + (tk x).length) k)) → ∀ (f : Nat) (acc : List α) (i : Nat) (rest : List Key), xs.length ≤ f → At W i (sepsK (xs.map tk) ++ rest) → P rest → keySays (headK rest) (str [44]) = false → listP W one f acc (stK i k) = (acc ++ xs, stK (i + (sepsK (xs.map tk)).length) k) := by
 intro xs
 induction xs with
 | nil =>
  intro _ f acc i rest _ hA _ hc
  cases f with
  | zero => simp [listP, sepsK]
  | succ f =>
   unfold listP
   rw [may_no' hA hc, if_neg Bool.false_ne_true]
   simp [sepsK]
 | cons x xs ih =>
  intro h f acc i rest hf hA hp hc
  obtain ⟨f, rfl⟩ : ∃ m, f = m + 1 := ⟨f - 1, by simp only [List.length_cons] at hf; omega⟩
  have e : sepsK ((x :: xs).map tk) = sgK [44] :: (tk x ++ sepsK (xs.map tk)) := rfl
  rw [e] at hA ⊢
  have hA : At W i (sgK [44] :: (tk x ++ (sepsK (xs.map tk) ++ rest))) := by
   rw [← List.append_assoc]; exact hA
  have hp2 : P (sepsK (xs.map tk) ++ rest) := by
   cases xs with
   | nil => exact hp
   | cons y ys => exact hP _
  unfold listP
  rw [may_yes' hA (show keySays (sgK [44]) (str [44]) = true by decide +kernel), if_pos rfl]
  simp only
  rw [h x (by simp) _ _ hA.next hp2]
  simp only
  rw [ih (fun y hy => h y (by simp [hy])) f (acc ++ [x]) _ rest (by simp only [List.length_cons] at hf; omega) hA.next.skip hp hc]
  simp only [List.length_cons, List.length_append, List.append_assoc, List.cons_append, List.nil_append]
  congr 2
  omega
theorem list1_at {α : Type} {W : Wds} {tk : α → List Key} {one : PSt → α × PSt} {k : Int} {P : List Key → Prop} (hP : ∀ r, P (sgK [44] :: r)) {xs : List α} (h0 : xs ≠ []) (h : ∀ x ∈ xs, ∀ i r, At W i (tk x ++ r) → P r → one (stK i k) = (x, stK (i + (tk x).length) k)) {i : Nat} {rest : List Key} (hA : At W i (joinK (xs.map tk) ++ rest)) (hp : P rest) (hc : keySays (headK rest) (str [44]) = false) : list1 W one (stK i k) = (xs, stK (i + (joinK (xs.map tk)).length) k) := by
 cases xs with
 | nil => exact absurd rfl h0
 | cons x xs =>
  have e : joinK ((x :: xs).map tk) = tk x ++ sepsK (xs.map tk) := rfl
  rw [e] at hA ⊢
  rw [List.append_assoc] at hA
  have hp2 : P (sepsK (xs.map tk) ++ rest) := by
   cases xs with
   | nil => exact hp
   | cons y ys => exact hP _
  have hl : xs.length ≤ W.fuel := by
   have h1 := fuel_lt hA.skip
   have h2 : ∀ l : List (List Key), l.length ≤ (sepsK l).length := by
    intro l
    induction l with
    | nil => exact Nat.le_refl _
    | cons a r ih =>
     have : sepsK (a :: r) = sgK [44] :: (a ++ sepsK r) := rfl
     rw [this]
     simp only [List.length_cons, List.length_append]
     omega
   have h3 := h2 (xs.map tk)
   rw [List.length_map] at h3
   omega
  unfold list1
  rw [h x (by simp) _ _ hA hp2]
  simp only
  rw [list_at hP xs (fun y hy => h y (by simp [hy])) W.fuel [x] _ rest hl hA.skip hp hc]
  simp only [List.length_append]
  congr 2
  omega
theorem exprs_at {d : Nat} {es : List Ex} (h0 : es ≠ []) (hb : ∀ e ∈ es, builtE d e = true) {W : Wds} {i : Nat} {k : Int} {rest : List Key} (hA : At W i (exprsK d es ++ rest)) (hn : NoOp 1 rest) (hc : keySays (headK rest) (str [44]) = false) (hk0 : 0 ≤ k) (hk : ∀ e ∈ es, k + 2 * (dptE d e : Int) ≤ 61) : exprsP W (stK i k) = (es, stK (i + (exprsK d es).length) k) :=
 list1_at (P := NoOp 1) (fun _ => noop_of (by decide +kernel)) h0 (fun e he _ _ hA hn => expr1_at (hb e he) hA hn hk0 (hk e he)) hA hn hc
/- what a statement's first word says -/
section
variable {W : Wds} {i : Nat} {k : Int} {rest : List Key}
theorem kw_let (hA : At W i (nmK [108, 101, 116] :: rest)) : plainP W (stK i k) = assignP W 1 (stK (i + 1) k) := by unfold plainP; simp [mayP_at hA, headK_cons, nmK_says]
theorem kw_set (hA : At W i (nmK [115, 101, 116] :: rest)) : plainP W (stK i k) = assignP W 2 (stK (i + 1) k) := by unfold plainP; simp [mayP_at hA, headK_cons, nmK_says]
theorem kw_insert (hA : At W i (nmK [105, 110, 115, 101, 114, 116] :: rest)) : plainP W (stK i k) = intoP W 3 (stK (i + 1) k) := by unfold plainP; simp [mayP_at hA, headK_cons, nmK_says]
theorem kw_emit (hA : At W i (nmK [101, 109, 105, 116] :: rest)) : plainP W (stK i k) = intoP W 8 (stK (i + 1) k) := by unfold plainP; simp [mayP_at hA, headK_cons, nmK_says]
theorem kw_update (hA : At W i (nmK [117, 112, 100, 97, 116, 101] :: rest)) : plainP W (stK i k) = changeP W (stK (i + 1) k) := by unfold plainP; simp [mayP_at hA, headK_cons, nmK_says]
theorem kw_delete (hA : At W i (nmK [100, 101, 108, 101, 116, 101] :: rest)) : plainP W (stK i k) = (.mk 5 (rowsP W (stK (i + 1) k)).1.1 (rowsP W (stK (i + 1) k)).1.2 0 [] [(whereP W (expr1 W) (rowsP W (stK (i + 1) k)).2).1] [] [], (whereP W (expr1 W) (rowsP W (stK (i + 1) k)).2).2) := by unfold plainP; simp [mayP_at hA, headK_cons, nmK_says]
theorem kw_abort (hA : At W i (nmK [97, 98, 111, 114, 116] :: rest)) : plainP W (stK i k) = (.mk 9 nil0 nil0 0 [] [(expr1 W (stK (i + 1) k)).1] [] [], (expr1 W (stK (i + 1) k)).2) := by unfold plainP; simp [mayP_at hA, headK_cons, nmK_says]
theorem kw_reply (hA : At W i (nmK [114, 101, 112, 108, 121] :: rest)) : plainP W (stK i k) = (.mk 10 nil0 nil0 0 [] (exprsP W (stK (i + 1) k)).1 [] [], (exprsP W (stK (i + 1) k)).2) := by unfold plainP; simp [mayP_at hA, headK_cons, nmK_says]
theorem kw_for {B : PSt → List St × PSt} (hA : At W i (nmK [102, 111, 114] :: rest)) : stmtP W B (stK i k) = forP W B (stK (i + 1) k) := by unfold stmtP; simp [mayP_at hA, headK_cons, nmK_says]
theorem kw_if {B : PSt → List St × PSt} (hA : At W i (nmK [105, 102] :: rest)) : stmtP W B (stK i k) = ifP W B (stK (i + 1) k) := by unfold stmtP; simp [mayP_at hA, headK_cons, nmK_says]
end
end Go.Afx
namespace Go.Afx
open Go.RowKit
theorem le_sum {l : List Nat} {x : Nat} (h : x ∈ l) : x ≤ l.sum := by
 induction l with
 | nil => cases h
 | cons a r ih =>
  rw [List.sum_cons]
  rcases List.mem_cons.1 h with rfl | h
  ·omega
  ·have := ih h; omega
theorem frees_mem {l : List ByteArray} (h : freesB l = true) : ∀ c ∈ l, freeB c = true := by
 rw [freesB_all] at h
 exact fun c hc => List.all_eq_true.1 h c hc
theorem stmt_cases {d : Nat} {x : St} (h : builtS (d + 1) x = true) :
  (∃ op name e, (op = 1 ∨ op = 2) ∧ freeB name = true ∧ builtE d e = true ∧ x = .mk op name nil0 0 [] [e] [] []) ∨
  (∃ op src es, (op = 3 ∨ op = 8) ∧ freeB src = true ∧ es ≠ [] ∧ (∀ e ∈ es, builtE d e = true) ∧ x = .mk op nil0 src 0 [] es [] []) ∨
  (∃ name src cols a es, freeB name = true ∧ freeB src = true ∧ cols ≠ [] ∧ cols.length = es.length ∧ (∀ c ∈ cols, freeB c = true) ∧ builtE d a = true ∧ (∀ e ∈ es, builtE d e = true) ∧ x = .mk 4 name src 0 cols (a :: es) [] []) ∨
  (∃ name src a, freeB name = true ∧ freeB src = true ∧ builtE d a = true ∧ x = .mk 5 name src 0 [] [a] [] []) ∨
  (∃ name src n a body, freeB name = true ∧ freeB src = true ∧ 0 ≤ n ∧ n ≤ 1000 ∧ builtE d a = true ∧ (∀ b ∈ body, builtS d b = true) ∧ x = .mk 6 name src n [] [a] body []) ∨
  (∃ a body els, builtE d a = true ∧ (∀ b ∈ body, builtS d b = true) ∧ (∀ b ∈ els, builtS d b = true) ∧ x = .mk 7 nil0 nil0 0 [] [a] body els) ∨
  (∃ a, builtE d a = true ∧ x = .mk 9 nil0 nil0 0 [] [a] [] []) ∨
  (∃ es, es ≠ [] ∧ (∀ e ∈ es, builtE d e = true) ∧ x = .mk 10 nil0 nil0 0 [] es [] []) := by
 obtain ⟨op, name, src, n, cols, es, body, els⟩ := x
 rw [builtS] at h
 simp only [shapeB, St.op, St.name, St.src, St.n, St.cols, St.exprs, St.body, St.els, Bool.and_eq_true, List.all_eq_true] at h
 obtain ⟨⟨⟨hs, he⟩, hb⟩, hl⟩ := h
 have one : ∀ l : List Ex, (1 : Int) ≤ l.length → (l.length : Int) ≤ 1 → ∃ a, l = [a] := fun l h1 h2 => List.length_eq_one_iff.1 (by omega)
 have ne : ∀ l : List Ex, (1 : Int) ≤ l.length → l ≠ [] := fun l h1 h2 => by subst h2; simp at h1
 have nilE : ∀ l : List ByteArray, l.length = 0 → l = [] := fun l h => List.eq_nil_of_length_eq_zero h
 have nilS : ∀ l : List St, l.length = 0 → l = [] := fun l h => List.eq_nil_of_length_eq_zero h
 unfold shapeR at hs
 by_cases h1 : op = 1 ∨ op = 2
 ·rw [if_pos h1] at hs
  simp only [shapeP, Bool.and_eq_true, decide_eq_true_eq, if_true, if_false, Bool.false_eq_true, Bool.false_or] at hs
  obtain ⟨⟨⟨⟨⟨⟨a1, a2⟩, a3⟩, rfl⟩, a5, a6⟩, a7⟩, a8⟩ := hs
  obtain ⟨e, rfl⟩ := one es a5 a6
  rw [noS_eq a2, nilE _ a3, nilS _ a7, nilS _ a8]
  exact .inl ⟨op, name, e, h1, a1, he e (by simp), rfl⟩
 rw [if_neg h1] at hs
 by_cases h2 : op = 3 ∨ op = 8
 ·rw [if_pos h2] at hs
  simp only [shapeP, Bool.and_eq_true, decide_eq_true_eq, if_true, if_false, Bool.false_eq_true, Bool.false_or] at hs
  obtain ⟨⟨⟨⟨⟨⟨a1, a2⟩, a3⟩, rfl⟩, a5, a6⟩, a7⟩, a8⟩ := hs
  rw [noS_eq a1, nilE _ a3, nilS _ a7, nilS _ a8]
  exact .inr (.inl ⟨op, src, es, h2, a2, ne _ a5, he, rfl⟩)
 rw [if_neg h2] at hs
 by_cases h3 : op = 4
 ·subst h3
  rw [if_pos rfl] at hs
  simp only [shapeP, Bool.and_eq_true, decide_eq_true_eq, if_true, if_false, Bool.false_eq_true, Bool.false_or] at hs
  obtain ⟨⟨⟨⟨⟨⟨a1, a2⟩, ⟨⟨a3, _⟩, a31⟩, _⟩, rfl⟩, a5, a6⟩, a7⟩, a8⟩ := hs
  rw [nilS _ a7, nilS _ a8]
  cases es with
  | nil => simp only [List.length_nil] at a5; omega
  | cons a es =>
   simp only [List.length_cons] at a5 a6
   exact .inr (.inr (.inl ⟨name, src, cols, a, es, a1, a2, fun h => (by subst h; simp at a3), by omega, frees_mem a31, he a (by simp), fun e h => he e (by simp [h]), rfl⟩))
 rw [if_neg h3] at hs
 by_cases h4 : op = 5
 ·subst h4
  rw [if_pos rfl] at hs
  simp only [shapeP, Bool.and_eq_true, decide_eq_true_eq, if_true, if_false, Bool.false_eq_true, Bool.false_or] at hs
  obtain ⟨⟨⟨⟨⟨⟨a1, a2⟩, a3⟩, rfl⟩, a5, a6⟩, a7⟩, a8⟩ := hs
  obtain ⟨e, rfl⟩ := one es a5 a6
  rw [nilE _ a3, nilS _ a7, nilS _ a8]
  exact .inr (.inr (.inr (.inl ⟨name, src, e, a1, a2, he e (by simp), rfl⟩)))
 rw [if_neg h4] at hs
 by_cases h5 : op = 6
 ·subst h5
  rw [if_pos rfl] at hs
  simp only [shapeP, Bool.and_eq_true, decide_eq_true_eq, if_true, if_false, Bool.false_eq_true, Bool.false_or, Bool.true_or, and_true] at hs
  obtain ⟨⟨⟨⟨⟨a1, a2⟩, a3⟩, a4, a41⟩, a5, a6⟩, a8⟩ := hs
  obtain ⟨e, rfl⟩ := one es a5 a6
  rw [nilE _ a3, nilS _ a8]
  exact .inr (.inr (.inr (.inr (.inl ⟨name, src, n, e, body, a1, a2, a4, a41, he e (by simp), hb, rfl⟩))))
 rw [if_neg h5] at hs
 by_cases h6 : op = 7
 ·subst h6
  rw [if_pos rfl] at hs
  simp only [shapeP, Bool.and_eq_true, decide_eq_true_eq, if_false, Bool.false_eq_true, Bool.true_or, and_true] at hs
  obtain ⟨⟨⟨⟨a1, a2⟩, a3⟩, rfl⟩, a5, a6⟩ := hs
  obtain ⟨e, rfl⟩ := one es a5 a6
  rw [nilE _ a3, noS_eq a1, noS_eq a2]
  exact .inr (.inr (.inr (.inr (.inr (.inl ⟨e, body, els, he e (by simp), hb, hl, rfl⟩)))))
 rw [if_neg h6] at hs
 by_cases h7 : op = 9
 ·subst h7
  rw [if_pos rfl] at hs
  simp only [shapeP, Bool.and_eq_true, decide_eq_true_eq, if_false, Bool.false_eq_true, Bool.false_or] at hs
  obtain ⟨⟨⟨⟨⟨⟨a1, a2⟩, a3⟩, rfl⟩, a5, a6⟩, a7⟩, a8⟩ := hs
  obtain ⟨e, rfl⟩ := one es a5 a6
  rw [nilE _ a3, nilS _ a7, nilS _ a8, noS_eq a1, noS_eq a2]
  exact .inr (.inr (.inr (.inr (.inr (.inr (.inl ⟨e, he e (by simp), rfl⟩))))))
 rw [if_neg h7] at hs
 by_cases h8 : op = 10
 ·subst h8
  rw [if_pos rfl] at hs
  simp only [shapeP, Bool.and_eq_true, decide_eq_true_eq, if_false, Bool.false_eq_true, Bool.false_or] at hs
  obtain ⟨⟨⟨⟨⟨⟨a1, a2⟩, a3⟩, rfl⟩, a5, a6⟩, a7⟩, a8⟩ := hs
  rw [nilE _ a3, nilS _ a7, nilS _ a8, noS_eq a1, noS_eq a2]
  exact .inr (.inr (.inr (.inr (.inr (.inr (.inr ⟨es, ne _ a5, he, rfl⟩))))))
 ·rw [if_neg h8] at hs
  cases hs
section
variable {d : Nat} {op n : Int} {name src : ByteArray} {cols : List ByteArray} {es : List Ex} {body els : List St}
theorem dpt_expr {e : Ex} (h : e ∈ es) : dptE d e + 1 ≤ dptS (d + 1) (.mk op name src n cols es body els) := by
 have := le_maxN (List.mem_map.2 ⟨e, h, rfl⟩ : dptE d e ∈ es.map (dptE d))
 rw [dptS]
 show _ ≤ 1 + max (max (maxN (es.map (dptE d))) (maxN (body.map (dptS d)))) (maxN (els.map (dptS d)))
 omega
theorem dpt_body {x : St} (h : x ∈ body) : dptS d x + 1 ≤ dptS (d + 1) (.mk op name src n cols es body els) := by
 have := le_maxN (List.mem_map.2 ⟨x, h, rfl⟩ : dptS d x ∈ body.map (dptS d))
 rw [dptS]
 show _ ≤ 1 + max (max (maxN (es.map (dptE d))) (maxN (body.map (dptS d)))) (maxN (els.map (dptS d)))
 omega
theorem dpt_els {x : St} (h : x ∈ els) : dptS d x + 1 ≤ dptS (d + 1) (.mk op name src n cols es body els) := by
 have := le_maxN (List.mem_map.2 ⟨x, h, rfl⟩ : dptS d x ∈ els.map (dptS d))
 rw [dptS]
 show _ ≤ 1 + max (max (maxN (es.map (dptE d))) (maxN (body.map (dptS d)))) (maxN (els.map (dptS d)))
 omega
theorem dpt_pos : 1 ≤ dptS (d + 1) (.mk op name src n cols es body els) := by rw [dptS]; omega
end
def StmtC (d : Nat) (x : St) : Prop :=
 ∀ (W : Wds) (f i : Nat) (k : Int) (rest : List Key), At W i (tokS d x ++ rest) → (tokS d x).length ≤ f → keySays (headK rest) (str [101, 108, 115, 101]) = false → 0 ≤ k → k + 2 * (dptS d x : Int) ≤ 61 → stmtP W (blockP W f) (stK i k) = (x, stK (i + (tokS d x).length) k)
def HeadC (d : Nat) (x : St) : Prop := ∃ a r, tokS d x = nmK a :: r ∧ a ≠ [101, 108, 115, 101] ∧ a ≠ [125]
theorem stmts_at {d : Nat} {W : Wds} {f : Nat} {k : Int} {rest : List Key} (h0 : 0 ≤ k) : ∀ (xs : List St), (∀ x ∈ xs, StmtC d x ∧ HeadC d x ∧ (tokS d x).length ≤ f ∧ k + 2 * (dptS d x : Int) ≤ 61) → ∀ (F : Nat) (acc : List St) (i : Nat), xs.length ≤ F → At W i (xs.flatMap (tokS d) ++ (sgK [125] :: rest)) → stmtsP W (stmtP W (blockP W f)) F acc (stK i k) = (acc ++ xs, stK (i + (xs.flatMap (tokS d)).length) k) := by
 intro xs
 induction xs with
 | nil =>
  intro _ F acc i _ hA
  cases F with
  | zero => simp [stmtsP]
  | succ F =>
   unfold stmtsP
   rw [isP_at hA, show keySays (headK ([].flatMap (tokS d) ++ sgK [125] :: rest)) (str [125]) = true from (by decide +kernel : keySays (sgK [125]) (str [125]) = true), if_neg (by simp)]
   simp
 | cons x xs ih =>
  intro h F acc i hF hA
  obtain ⟨F, rfl⟩ : ∃ m, F = m + 1 := ⟨F - 1, by simp only [List.length_cons] at hF; omega⟩
  obtain ⟨hc, ⟨a, r, hr, _, ha2⟩, hf, hk⟩ := h x (by simp)
  rw [List.flatMap_cons, List.append_assoc] at hA
  have hno : isP W (stK i k) (str [125]) = false := by
   rw [isP_at hA, hr]
   show keySays (nmK a) (str [125]) = false
   rw [nmK_says]
   simp [ha2]
  have hel : keySays (headK (xs.flatMap (tokS d) ++ (sgK [125] :: rest))) (str [101, 108, 115, 101]) = false := by
   cases xs with
   | nil => show keySays (sgK [125]) _ = false; decide +kernel
   | cons y ys =>
    obtain ⟨_, ⟨b, r2, hr2, hb, _⟩, _⟩ := h y (by simp)
    rw [List.flatMap_cons, hr2]
    show keySays (nmK b) _ = false
    rw [nmK_says]
    simp [hb]
  unfold stmtsP
  rw [hno, if_pos (by rfl), hc W f i k _ hA hf hel h0 hk]
  simp only
  rw [ih (fun y hy => h y (by simp [hy])) F (acc ++ [x]) _ (by simp only [List.length_cons] at hF; omega) hA.skip, List.flatMap_cons, List.length_append]
  simp only [List.append_assoc, List.cons_append, List.nil_append]
  congr 2
  omega
theorem count_le {d : Nat} (xs : List St) (h : ∀ x ∈ xs, HeadC d x) : xs.length ≤ (xs.flatMap (tokS d)).length := by
 induction xs with
 | nil => exact Nat.zero_le _
 | cons x xs ih =>
  obtain ⟨a, r, hr, _⟩ := h x (by simp)
  have := ih (fun y hy => h y (by simp [hy]))
  rw [List.flatMap_cons, List.length_append, hr, List.length_cons, List.length_cons]
  omega
theorem block_at {d : Nat} {W : Wds} {f i : Nat} {k : Int} {rest : List Key} {xs : List St} (h : ∀ x ∈ xs, StmtC d x ∧ HeadC d x ∧ k + 1 + 2 * (dptS d x : Int) ≤ 61) (h0 : 0 ≤ k) (hk : k < 60) (hA : At W i (blockK (tokS d) xs ++ rest)) (hf : (blockK (tokS d) xs).length ≤ f) : blockP W f (stK i k) = (xs, stK (i + (blockK (tokS d) xs).length) k) := by
 unfold blockK at *
 simp only [List.length_cons, List.length_append, List.length_nil] at hf ⊢
 obtain ⟨f, rfl⟩ : ∃ m, f = m + 1 := ⟨f - 1, by omega⟩
 have hA : At W i (sgK [123] :: (xs.flatMap (tokS d) ++ (sgK [125] :: rest))) := by
  have e : (sgK [123] :: (xs.flatMap (tokS d) ++ [sgK [125]])) ++ rest = sgK [123] :: (xs.flatMap (tokS d) ++ (sgK [125] :: rest)) := by simp
  rw [e] at hA
  exact hA
 have hlen : ∀ x ∈ xs, (tokS d x).length ≤ (xs.flatMap (tokS d)).length := fun x hx => by
  rw [List.length_flatMap]
  exact le_sum (List.mem_map.2 ⟨x, hx, rfl⟩)
 have hcount := count_le xs (fun x hx => (h x hx).2.1)
 have hl := fuel_lt hA.next
 unfold blockP
 simp only
 rw [must_at hA (show keySays (sgK [123]) (str [123]) = true by decide +kernel), enter_at h0 hk, stmts_at (d := d) (rest := rest) (by omega) xs (fun x hx => ⟨(h x hx).1, (h x hx).2.1, by have := hlen x hx; omega, (h x hx).2.2⟩) W.fuel [] (i + 1) (by omega) hA.next]
 simp only
 rw [must_at hA.next.skip (show keySays (sgK [125]) (str [125]) = true by decide +kernel), leave_at h0 hk]
 simp only [List.nil_append]
 congr 2
 omega
end Go.Afx
