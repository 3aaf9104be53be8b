/- Lock, part E: plain laws on the union of wants. -/
import Derived.Test.YtinpihplkikldaaLockP
namespace Go.Proofs.Ytinpihplkikldaa
open Go.RowKit Go.Afx

/-- the program's step: behind the last one -/
def ddStep (out : List Wt) (p : Wt) : List Wt :=
  match out.getLast? with
  | some l => if l.1.toList == p.1.toList then out.dropLast ++ [(l.1, l.2 || p.2)] else out ++ [p]
  | none => [p]
def dedup (l : List Wt) : List Wt := l.foldl ddStep []

theorem ddStep_nil (p : Wt) : ddStep [] p = [p] := rfl
theorem ddStep_same (o : List Wt) (q p : Wt) (h : (q.1.toList == p.1.toList) = true) : ddStep (o ++ [q]) p = o ++ [(q.1, q.2 || p.2)] := by
  simp only [ddStep, List.getLast?_append, List.getLast?_singleton, Option.some_or, h, if_true, List.dropLast_concat]
theorem ddStep_new (o : List Wt) (q p : Wt) (h : (q.1.toList == p.1.toList) = false) : ddStep (o ++ [q]) p = o ++ [q] ++ [p] := by
  simp [ddStep, List.getLast?_append, h]
theorem dedup_snoc (l : List Wt) (p : Wt) : dedup (l ++ [p]) = ddStep (dedup l) p := by simp [dedup]

/-- the statement's own step -/
def insW : List Wt → Wt → List Wt
  | [], p => [p]
  | q :: r, p => if ltW q p then q :: insW r p else if q.1.toList == p.1.toList then (q.1, q.2 || p.2) :: r else p :: q :: r
def unionW (l : List Wt) : List Wt := l.foldl insW []
theorem unionW_snoc (l : List Wt) (p : Wt) : unionW (l ++ [p]) = insW (unionW l) p := by simp [unionW]

def anyW (l : List Wt) (n : ByteArray) : Bool := l.any fun x => decide (x.1 = n) && x.2
/-- out has each name of l once, and whether any is to write it -/
def Says (l out : List Wt) : Prop := out.Pairwise (fun p q => ltW p q = true) ∧ ∀ n b, (n, b) ∈ out ↔ ((∃ x, (n, x) ∈ l) ∧ b = anyW l n)

theorem eq_of_str {a b : ByteArray} : (a.toList == b.toList) = true ↔ a = b := by
  rw [beq_iff_eq]; exact ⟨bl_inj, fun h => by rw [h]⟩

theorem ltW_irrefl (p q : Wt) (h : p.1 = q.1) : ltW p q = false := by unfold ltW; rw [h]; exact less_irrefl _

theorem ltW_same (a : ByteArray) (x y : Bool) : ltW (a, x) (a, y) = false := less_irrefl _

theorem anyW_snoc (l : List Wt) (p : Wt) (n : ByteArray) : anyW (l ++ [p]) n = (anyW l n || (decide (p.1 = n) && p.2)) := by simp [anyW]

theorem insW_mem (l : List Wt) (p : Wt) : ∀ n b, (l.Pairwise fun p q => ltW p q = true) → ((n, b) ∈ insW l p ↔ (n ≠ p.1 ∧ (n, b) ∈ l) ∨ (n = p.1 ∧ ((∃ y, (n, y) ∈ l ∧ b = (y || p.2)) ∨ ((∀ y, (n, y) ∉ l) ∧ b = p.2)))) := by
  induction l with
  | nil => intro n b _; obtain ⟨pn, pb⟩ := p; simp [insW]
  | cons q r ih =>
    intro n b hs
    obtain ⟨hq, hr⟩ := List.pairwise_cons.1 hs
    obtain ⟨qn, qb⟩ := q
    obtain ⟨pn, pb⟩ := p
    unfold insW
    by_cases h1 : ltW (qn, qb) (pn, pb) = true
    · rw [if_pos h1]
      have hne : qn ≠ pn := by rintro rfl; rw [ltW_same] at h1; cases h1
      rw [List.mem_cons, ih n b hr]
      simp only [List.mem_cons, Prod.mk.injEq]
      by_cases hn : n = pn
      · subst hn
        have hnq : n ≠ qn := fun e => hne e.symm
        simp [hnq]
      · simp [hn]
    · rw [if_neg h1]
      have h1' : ltW (qn, qb) (pn, pb) = false := by simpa using h1
      by_cases h2 : (qn.toList == pn.toList) = true
      · rw [if_pos h2]
        obtain rfl := eq_of_str.1 h2
        have hnr : ∀ y, (qn, y) ∉ r := fun y hy => by
          have := hq _ hy
          rw [ltW_same] at this; cases this
        simp only [List.mem_cons, Prod.mk.injEq]
        by_cases hn : n = qn
        · subst hn
          simp [hnr]
        · simp [hn]
      · rw [if_neg h2]
        have hne : qn ≠ pn := fun e => h2 (eq_of_str.2 e)
        have hlt : ltW (pn, pb) (qn, qb) = true := by
          cases hb : ltW (pn, pb) (qn, qb)
          · exact absurd (bl_inj (less_total h1' hb)) hne
          · rfl
        have hnr : ∀ y, (pn, y) ∉ (qn, qb) :: r := by
          intro y hy
          rcases List.mem_cons.1 hy with hy | hy
          · injection hy with e1 e2; exact hne e1.symm
          · have := less_trans hlt (hq _ hy)
            rw [less_irrefl] at this; cases this
        rw [List.mem_cons]
        by_cases hn : n = pn
        · subst hn
          simp [hnr]
        · simp [hn]

theorem insW_strict (l : List Wt) (p : Wt) (hs : l.Pairwise fun p q => ltW p q = true) : (insW l p).Pairwise fun p q => ltW p q = true := by
  induction l with
  | nil => simp [insW]
  | cons q r ih =>
    obtain ⟨hq, hr⟩ := List.pairwise_cons.1 hs
    obtain ⟨qn, qb⟩ := q
    obtain ⟨pn, pb⟩ := p
    unfold insW
    by_cases h1 : ltW (qn, qb) (pn, pb) = true
    · rw [if_pos h1]
      refine List.pairwise_cons.2 ⟨?_, ih hr⟩
      rintro ⟨n, b⟩ hm
      rw [insW_mem r (pn, pb) n b hr] at hm
      rcases hm with ⟨_, hm⟩ | ⟨rfl, _⟩
      · exact hq _ hm
      · exact h1
    · rw [if_neg h1]
      have h1' : ltW (qn, qb) (pn, pb) = false := by simpa using h1
      by_cases h2 : (qn.toList == pn.toList) = true
      · rw [if_pos h2]
        exact List.pairwise_cons.2 ⟨fun x hx => hq x hx, hr⟩
      · rw [if_neg h2]
        have hne : qn ≠ pn := fun e => h2 (eq_of_str.2 e)
        have hlt : ltW (pn, pb) (qn, qb) = true := by
          cases hb : ltW (pn, pb) (qn, qb)
          · exact absurd (bl_inj (less_total h1' hb)) hne
          · rfl
        refine List.pairwise_cons.2 ⟨?_, hs⟩
        intro x hx
        rcases List.mem_cons.1 hx with rfl | hx
        · exact hlt
        · exact less_trans hlt (hq _ hx)

theorem unionW_says (l : List Wt) : Says l (unionW l) := by
  suffices h : ∀ (done rest : List Wt), Says done (unionW done) → Says (done ++ rest) (unionW (done ++ rest)) by
    have := h [] l ⟨by simp [unionW], by simp [unionW]⟩
    simpa using this
  intro done rest
  induction rest generalizing done with
  | nil => intro h; simpa using h
  | cons p rest ih =>
    intro h
    have e : done ++ p :: rest = (done ++ [p]) ++ rest := by simp
    rw [e]
    refine ih _ ?_
    rw [unionW_snoc]
    refine ⟨insW_strict _ _ h.1, fun n b => ?_⟩
    rw [insW_mem _ _ n b h.1]
    obtain ⟨pn, pb⟩ := p
    have hh := h.2
    rw [anyW_snoc]
    by_cases hn : n = pn
    · subst hn
      simp only [ne_eq, not_true_eq_false, false_and, false_or, true_and, List.mem_append, List.mem_singleton, Prod.mk.injEq, decide_true, Bool.true_and]
      constructor
      · rintro (⟨y, hy, rfl⟩ | ⟨hy, rfl⟩)
        · have := (hh n y).1 hy
          refine ⟨⟨pb, .inr rfl⟩, ?_⟩
          rw [this.2]
        · refine ⟨⟨b, .inr rfl⟩, ?_⟩
          have : anyW done n = false := by
            cases ha : anyW done n
            · rfl
            · unfold anyW at ha
              rw [List.any_eq_true] at ha
              obtain ⟨⟨xn, xb⟩, hx, hx2⟩ := ha
              simp only [Bool.and_eq_true, decide_eq_true_eq] at hx2
              obtain ⟨rfl, rfl⟩ := hx2
              exact absurd ((hh xn _).2 ⟨⟨_, hx⟩, rfl⟩) (hy _)
          rw [this]; rfl
      · rintro ⟨_, rfl⟩
        by_cases hx : ∃ x, (n, x) ∈ done
        · exact .inl ⟨anyW done n, (hh n _).2 ⟨hx, rfl⟩, rfl⟩
        · refine .inr ⟨fun y hy => hx ((hh n y).1 hy).1, ?_⟩
          have : anyW done n = false := by
            cases ha : anyW done n
            · rfl
            · unfold anyW at ha
              rw [List.any_eq_true] at ha
              obtain ⟨⟨xn, xb⟩, hx3, hx2⟩ := ha
              simp only [Bool.and_eq_true, decide_eq_true_eq] at hx2
              obtain ⟨rfl, rfl⟩ := hx2
              exact absurd ⟨_, hx3⟩ hx
          rw [this]; rfl
    · have hn' : ¬ pn = n := fun e => hn e.symm
      simp only [ne_eq, hn, not_false_eq_true, true_and, false_and, or_false, List.mem_append, List.mem_singleton, Prod.mk.injEq, hn', decide_false, Bool.false_and, Bool.or_false]
      exact hh n b


/-- the program's list, not falling by its names -/
theorem dedup_says (s : List Wt) (hs : s.Pairwise leW) : Says s (dedup s) := by
  suffices h : ∀ (done rest : List Wt), (done ++ rest).Pairwise leW → (Says done (dedup done) ∧ ∀ o q, dedup done = o ++ [q] → ∀ x ∈ done, leW x q) → Says (done ++ rest) (dedup (done ++ rest)) by
    have := h [] s (by simpa using hs) ⟨⟨by simp [dedup], by simp [dedup]⟩, fun o q hq => by simp [dedup] at hq⟩
    simpa using this
  intro done rest
  induction rest generalizing done with
  | nil => intro _ h; simpa using h.1
  | cons p rest ih =>
    intro hsort ⟨h, hlast⟩
    have e : done ++ p :: rest = (done ++ [p]) ++ rest := by simp
    rw [e]
    refine ih _ (by rw [← e]; exact hsort) ?_
    have hdp : ∀ x ∈ done, leW x p := fun x hx => by
      rw [List.pairwise_append] at hsort
      exact hsort.2.2 x hx p (by simp)
    rw [dedup_snoc]
    obtain ⟨pn, pb⟩ := p
    have hh := h.2
    rcases List.eq_nil_or_concat (dedup done) with hnil | ⟨o, q, hoq⟩
    · have hdn : done = [] := by
        cases done with
        | nil => rfl
        | cons x r =>
          have := (hh x.1 _).2 ⟨⟨x.2, by simp⟩, rfl⟩
          rw [hnil] at this; simp at this
      subst hdn
      refine ⟨⟨by simp [dedup, ddStep], fun n b => ?_⟩, fun o q hq x hx => ?_⟩
      · simp only [dedup, List.foldl_nil, ddStep_nil, List.nil_append, List.mem_singleton, Prod.mk.injEq, anyW, List.any_cons, List.any_nil, Bool.or_false]
        constructor
        · rintro ⟨rfl, rfl⟩; simp
        · rintro ⟨⟨x, rfl, rfl⟩, h⟩; simpa using h
      · simp only [dedup, List.foldl_nil, ddStep_nil] at hq
        have : q = (pn, pb) := by
          have := congrArg List.getLast? hq
          simpa using this.symm
        subst this
        simp at hx; subst hx; exact leW_refl _
    · rw [List.concat_eq_append] at hoq
      obtain ⟨qn, qb⟩ := q
      have hql := hlast o _ hoq
      have hqp : leW (qn, qb) (pn, pb) := by
        have hq := (hh qn qb).1 (by rw [hoq]; simp)
        obtain ⟨⟨x, hx⟩, _⟩ := hq
        exact hdp (qn, x) hx
      rw [hoq] at hh ⊢
      have hst := h.1
      rw [hoq, List.pairwise_append] at hst
      by_cases hsame : (qn.toList == pn.toList) = true
      · rw [ddStep_same _ _ _ hsame]
        obtain rfl := eq_of_str.1 hsame
        refine ⟨⟨?_, fun n b => ?_⟩, ?_⟩
        · rw [List.pairwise_append]
          refine ⟨hst.1, by simp, fun a ha b hb => ?_⟩
          rw [List.mem_singleton.1 hb]
          exact hst.2.2 a ha (qn, qb) (List.mem_singleton.2 rfl)
        · rw [anyW_snoc]
          have hno : ∀ y, (qn, y) ∉ o := fun y hy => by
            have := hst.2.2 _ hy _ (List.mem_singleton.2 rfl)
            rw [ltW_same] at this; cases this
          by_cases hn : n = qn
          · subst hn
            have hq := (hh n qb).1 (by simp)
            simp only [List.mem_append, hno, List.mem_singleton, Prod.mk.injEq, true_and, false_or, decide_true, Bool.true_and]
            rw [← hq.2]
            constructor
            · rintro rfl; exact ⟨⟨pb, .inr rfl⟩, rfl⟩
            · rintro ⟨_, rfl⟩; rfl
          · have hn' : ¬ qn = n := fun e => hn e.symm
            have := hh n b
            simp only [List.mem_append, List.mem_singleton, Prod.mk.injEq, hn, false_and, or_false] at this ⊢
            simp only [hn', decide_false, Bool.false_and, Bool.or_false]
            exact this
        · intro o' q' hq' x hx
          have : q' = (qn, qb || pb) := by
            have := congrArg List.getLast? hq'
            simpa using this.symm
          subst this
          rcases List.mem_append.1 hx with hx | hx
          · exact hql x hx
          · rw [List.mem_singleton.1 hx]; exact less_irrefl _
      · have hsame : (qn.toList == pn.toList) = false := by simpa using hsame
        rw [ddStep_new _ _ _ hsame]
        have hne : qn ≠ pn := fun e => by rw [eq_of_str.2 e] at hsame; cases hsame
        have hlt : ltW (qn, qb) (pn, pb) = true := by
          cases hb : ltW (qn, qb) (pn, pb)
          · exact absurd (bl_inj (less_total hb hqp)) hne
          · rfl
        have hno : ∀ y, (pn, y) ∉ done := fun y hy => by
          have h1 := hql _ hy
          have := hlt
          simp only [leW, ltW] at h1 this
          rw [h1] at this; cases this
        refine ⟨⟨?_, fun n b => ?_⟩, ?_⟩
        · rw [List.pairwise_append]
          refine ⟨by rw [← hoq]; exact h.1, by simp, fun a ha b hb => ?_⟩
          rw [List.mem_singleton.1 hb]
          rcases List.mem_append.1 ha with ha | ha
          · exact less_trans (hst.2.2 a ha _ (List.mem_singleton.2 rfl)) hlt
          · rw [List.mem_singleton.1 ha]; exact hlt
        · rw [anyW_snoc]
          have hh' := hh n b
          by_cases hn : n = pn
          · subst hn
            have ha : anyW done n = false := by
              cases ha : anyW done n
              · rfl
              · unfold anyW at ha
                rw [List.any_eq_true] at ha
                obtain ⟨⟨xn, xb⟩, hx3, hx2⟩ := ha
                simp only [Bool.and_eq_true, decide_eq_true_eq] at hx2
                obtain ⟨rfl, rfl⟩ := hx2
                exact absurd hx3 (hno _)
            have h0 : (n, b) ∉ o ++ [(qn, qb)] := fun hm => by
              obtain ⟨⟨x, hx⟩, _⟩ := hh'.1 hm
              exact hno _ hx
            rw [List.mem_append, ha]
            simp only [h0, false_or, List.mem_singleton, Prod.mk.injEq, true_and, List.mem_append, decide_true, Bool.true_and, Bool.false_or]
            exact ⟨fun e => ⟨⟨pb, .inr rfl⟩, e⟩, fun e => e.2⟩
          · have hn' : ¬ pn = n := fun e => hn e.symm
            rw [List.mem_append, hh']
            simp [hn, hn']
        · intro o' q' hq' x hx
          have : q' = (pn, pb) := by
            have := congrArg List.getLast? hq'
            simpa using this.symm
          subst this
          rcases List.mem_append.1 hx with hx | hx
          · exact hdp x hx
          · rw [List.mem_singleton.1 hx]; exact leW_refl _

theorem strict_ext : ∀ (a b : List Wt), a.Pairwise (fun p q => ltW p q = true) → b.Pairwise (fun p q => ltW p q = true) → (∀ x, x ∈ a ↔ x ∈ b) → a = b
  | [], [], _, _, _ => rfl
  | [], y :: b, _, _, h => by have := (h y).2 (by simp); simp at this
  | x :: a, [], _, _, h => by have := (h x).1 (by simp); simp at this
  | x :: a, y :: b, ha, hb, h => by
    obtain ⟨hxa, ha'⟩ := List.pairwise_cons.1 ha
    obtain ⟨hyb, hb'⟩ := List.pairwise_cons.1 hb
    have hxy : x = y := by
      rcases List.mem_cons.1 ((h x).1 (by simp)) with e | hx
      · exact e
      · rcases List.mem_cons.1 ((h y).2 (by simp)) with e | hy
        · exact e.symm
        · have := less_trans (hyb x hx) (hxa y hy)
          rw [less_irrefl] at this; cases this
    subst hxy
    rw [strict_ext a b ha' hb' fun z => ?_]
    constructor
    · intro hz
      rcases List.mem_cons.1 ((h z).1 (List.mem_cons_of_mem _ hz)) with e | hz'
      · subst e; have := hxa z hz; have e : ltW z z = false := less_irrefl _; rw [e] at this; cases this
      · exact hz'
    · intro hz
      rcases List.mem_cons.1 ((h z).2 (List.mem_cons_of_mem _ hz)) with e | hz'
      · subst e; have := hyb z hz; have e : ltW z z = false := less_irrefl _; rw [e] at this; cases this
      · exact hz'

theorem anyW_perm {a b : List Wt} (h : a.Perm b) (n : ByteArray) : anyW a n = anyW b n := by
  rw [Bool.eq_iff_iff]
  simp only [anyW, List.any_eq_true]
  exact ⟨fun ⟨x, hx, e⟩ => ⟨x, h.mem_iff.1 hx, e⟩, fun ⟨x, hx, e⟩ => ⟨x, h.mem_iff.2 hx, e⟩⟩
theorem Says.perm {a b o : List Wt} (h : Says a o) (hp : a.Perm b) : Says b o :=
  ⟨h.1, fun n v => by rw [h.2 n v, anyW_perm hp n]; exact and_congr_left fun _ => ⟨fun ⟨x, hx⟩ => ⟨x, hp.mem_iff.1 hx⟩, fun ⟨x, hx⟩ => ⟨x, hp.mem_iff.2 hx⟩⟩⟩
theorem Says.unique {l a b : List Wt} (h : Says l a) (k : Says l b) : a = b :=
  strict_ext a b h.1 k.1 fun ⟨n, v⟩ => (h.2 n v).trans (k.2 n v).symm

theorem dedup_union {l s : List Wt} (hp : s.Perm l) (hs : s.Pairwise leW) : dedup s = unionW l :=
  ((dedup_says s hs).perm hp).unique (unionW_says l)
theorem unionW_perm {a b : List Wt} (hp : a.Perm b) : unionW a = unionW b := ((unionW_says a).perm hp).unique (unionW_says b)

theorem insW_pre (P R : List Wt) (p : Wt) (h : ∀ q ∈ P, ltW q p = true) : insW (P ++ R) p = P ++ insW R p := by
  induction P with
  | nil => rfl
  | cons q P ih =>
    rw [List.cons_append, insW, if_pos (h q (by simp)), ih fun q' hq => h q' (by simp [hq])]; rfl
theorem insW_same (b : ByteArray) (y : Bool) (R : List Wt) (a : ByteArray) (x : Bool) (h : (b.toList == a.toList) = true) : insW ((b, y) :: R) (a, x) = (b, y || x) :: R := by
  have hl : ltW (b, y) (a, x) = false := ltW_irrefl _ _ (eq_of_str.1 h)
  rw [insW, hl]; simp [h]
theorem insW_new (q : Wt) (R : List Wt) (p : Wt) (h : ltW q p = false) (h2 : (q.1.toList == p.1.toList) = false) : insW (q :: R) p = p :: q :: R := by
  rw [insW, h, h2]; rfl
theorem insW_end (p : Wt) : insW [] p = [p] := rfl
theorem insW_length (l : List Wt) (p : Wt) : (insW l p).length ≤ l.length + 1 := by
  induction l with
  | nil => simp [insW]
  | cons q r ih => unfold insW; split <;> (try split) <;> simp <;> omega
theorem unionW_length (l : List Wt) : (unionW l).length ≤ l.length := by
  suffices h : ∀ (l o : List Wt), (l.foldl insW o).length ≤ o.length + l.length by
    have := h l []; rw [List.length_nil, Nat.zero_add] at this; exact this
  intro l
  induction l with
  | nil => intro o; simp
  | cons p l ih => intro o; have h1 := ih (insW o p); have h2 := insW_length o p; rw [List.foldl_cons, List.length_cons]; omega
end Go.Proofs.Ytinpihplkikldaa
