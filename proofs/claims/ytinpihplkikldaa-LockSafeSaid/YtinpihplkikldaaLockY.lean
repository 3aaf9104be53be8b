/- Lock, part Y: the plain law: a table that is asked, granted and freed is safe, and comes to an end. -/
import Derived.Test.YtinpihplkikldaaLockS
namespace Go.Proofs.Ytinpihplkikldaa
open Go.RowKit Go.Afx

/-- no id twice, and no two that hold clash -/
structure Inv (T : List AskD) : Prop where
  ids : ∀ (i j : Nat) (a b : AskD), T[i]? = some a → T[j]? = some b → i ≠ j → a.id ≠ b.id
  apart : ∀ (i j : Nat) (a b : AskD), T[i]? = some a → T[j]? = some b → i ≠ j → a.held = true → b.held = true → clashL a.ws b.ws = false

theorem Inv.nil_ : Inv [] := ⟨fun i j a b h => by simp at h, fun i j a b h => by simp at h⟩

theorem Inv.sub {T T' : List AskD} (h : Inv T) (f : Nat → Nat) (hf : ∀ i j, i ≠ j → f i ≠ f j) (hT : ∀ (i : Nat) (a : AskD), T'[i]? = some a → T[f i]? = some a) : Inv T' :=
  ⟨fun i j a b ha hb hij => h.ids _ _ a b (hT i a ha) (hT j b hb) (hf i j hij), fun i j a b ha hb hij => h.apart _ _ a b (hT i a ha) (hT j b hb) (hf i j hij)⟩

def skipAt (k i : Nat) : Nat := if i < k then i else i + 1
theorem skipAt_inj (k i j : Nat) (h : i ≠ j) : skipAt k i ≠ skipAt k j := by unfold skipAt; split <;> split <;> omega
theorem erase_get {T : List AskD} {k i : Nat} {a : AskD} (h : (T.eraseIdx k)[i]? = some a) : T[skipAt k i]? = some a := by
  rw [List.getElem?_eraseIdx] at h
  unfold skipAt
  split <;> simp_all
theorem Inv.erase {T : List AskD} (h : Inv T) (k : Nat) : Inv (T.eraseIdx k) := h.sub (skipAt k) (skipAt_inj k) fun _ _ hk => erase_get hk

theorem findT_none {T : List AskD} {id : Int} (h : findT T id < 0) : ∀ a ∈ T, a.id ≠ id := by
  induction T with
  | nil => simp
  | cons b r ih =>
    intro a ha
    unfold findT at h
    by_cases he : (b.id == id) = true
    · rw [if_pos he] at h; omega
    · rw [if_neg he] at h
      have hr := findT_range r id
      split at h
      · rename_i h1
        rcases List.mem_cons.1 ha with rfl | ha
        · simpa using he
        · exact ih (by omega) a ha
      · omega

theorem findT_some {T : List AskD} {id : Int} (h : ¬ findT T id < 0) : ∃ a, T[(findT T id).toNat]? = some a ∧ a.id = id := by
  induction T with
  | nil => simp [findT] at h
  | cons b r ih =>
    unfold findT at h ⊢
    by_cases he : (b.id == id) = true
    · simp only [if_pos he]
      exact ⟨b, by simp, by simpa using he⟩
    · rw [if_neg he] at h
      simp only [if_neg he]
      have hr := findT_range r id
      split at h
      · omega
      · rename_i h1
        rw [if_neg h1]
        obtain ⟨a, h2, h3⟩ := ih (by omega)
        refine ⟨a, ?_, h3⟩
        rw [show (findT r id + 1).toNat = (findT r id).toNat + 1 by omega]
        simpa using h2

theorem Inv.ask {T : List AskD} (h : Inv T) (id : Int) (ws : List Wt) : Inv (askT T id ws).2 := by
  unfold askT
  split
  · exact h
  · split
    · exact h
    · rename_i _ hf
      have hno := findT_none (T := T) (id := id) (by omega)
      have key : ∀ (i : Nat) (a : AskD), (T ++ [({ ws := unionW ws, id := id, held := false } : AskD)])[i]? = some a → (i < T.length ∧ T[i]? = some a) ∨ (i = T.length ∧ a = { ws := unionW ws, id := id, held := false }) := fun i a ha => by
        rw [List.getElem?_append] at ha
        split at ha
        · rename_i hi; exact .inl ⟨hi, ha⟩
        · rename_i hi
          obtain ⟨hl, he⟩ := List.getElem?_eq_some_iff.1 ha
          simp at hl
          refine .inr ⟨by omega, ?_⟩
          have : i - T.length = 0 := by omega
          simp [this] at he
          exact he.symm
      refine ⟨fun i j a b ha hb hij => ?_, fun i j a b ha hb hij h1 h2 => ?_⟩
      · rcases key i a ha with ⟨hi, ha⟩ | ⟨hi, rfl⟩ <;> rcases key j b hb with ⟨hj, hb⟩ | ⟨hj, rfl⟩
        · exact h.ids i j a b ha hb hij
        · exact hno a (List.mem_of_getElem? ha)
        · exact fun e => hno b (List.mem_of_getElem? hb) e.symm
        · omega
      · rcases key i a ha with ⟨hi, ha⟩ | ⟨hi, rfl⟩ <;> rcases key j b hb with ⟨hj, hb⟩ | ⟨hj, rfl⟩
        · exact h.apart i j a b ha hb hij h1 h2
        · simp at h2
        · simp at h1
        · omega

theorem hold_get {T : List AskD} {k i : Nat} {a : AskD} (h : (holdT T k)[i]? = some a) : ∃ b, T[i]? = some b ∧ a.id = b.id ∧ a.ws = b.ws ∧ ((i = k ∧ a.held = true) ∨ (i ≠ k ∧ a.held = b.held)) := by
  unfold holdT at h
  rw [List.getElem?_modify] at h
  cases hT : T[i]? with
  | none => rw [hT] at h; simp at h
  | some b =>
    rw [hT] at h
    simp at h
    subst h
    refine ⟨b, rfl, ?_, ?_, ?_⟩ <;> by_cases hk : k = i <;> simp_all
    exact .inr fun (e : i = k) => hk (Eq.symm e)

theorem ready_parts {T : List AskD} {k : Nat} (hr : readyT T k = true) : ∃ a, T[k]? = some a ∧ a.held = false ∧ ∀ (j : Nat) (b : AskD), T[j]? = some b → j ≠ k → b.held = true → clashL a.ws b.ws = false := by
  unfold readyT at hr
  split at hr
  · rename_i a ha
    simp only [Bool.and_eq_true, Bool.not_eq_true'] at hr
    refine ⟨a, ha, hr.2, fun j b hb hj hh => ?_⟩
    have h1 := hr.1
    unfold blockedT at h1
    rw [List.any_eq_false] at h1
    have h2 := h1 (b, j) (by rw [List.mem_zipIdx_iff_getElem?]; exact hb)
    simpa [blk1, hj, hh] using h2
  · cases hr

theorem Inv.hold {T : List AskD} (h : Inv T) {k : Nat} (hr : readyT T k = true) : Inv (holdT T k) := by
  obtain ⟨a0, h0, h1, h2⟩ := ready_parts hr
  refine ⟨fun i j a b ha hb hij => ?_, fun i j a b ha hb hij k1 k2 => ?_⟩
  · obtain ⟨a', ha', e1, e2, e3⟩ := hold_get ha
    obtain ⟨b', hb', f1, f2, f3⟩ := hold_get hb
    rw [e1, f1]
    exact h.ids i j a' b' ha' hb' hij
  · obtain ⟨a', ha', e1, e2, e3⟩ := hold_get ha
    obtain ⟨b', hb', f1, f2, f3⟩ := hold_get hb
    rw [e2, f2]
    rcases e3 with ⟨rfl, e3⟩ | ⟨e3, e4⟩ <;> rcases f3 with ⟨rfl, f3⟩ | ⟨f3, f4⟩
    · exact absurd rfl hij
    · rw [h0] at ha'
      injection ha' with ha'
      subst ha'
      exact h2 j b' hb' f3 (by rw [← f4]; exact k2)
    · rw [h0] at hb'
      injection hb' with hb'
      subst hb'
      rw [clashL_comm]
      exact h2 i a' ha' e3 (by rw [← e4]; exact k1)
    · exact h.apart i j a' b' ha' hb' hij (by rw [← e4]; exact k1) (by rw [← f4]; exact k2)

theorem Inv.grant (ids : List Int) : ∀ {T : List AskD}, Inv T → Inv (grantT T ids).2 := by
  induction ids with
  | nil => intro T h; exact h
  | cons id r ih =>
    intro T h
    unfold grantT
    split
    · exact h
    · split
      · exact h
      · split
        · rename_i hr; exact ih (h.hold hr)
        · exact h

theorem Inv.free (ids : List Int) : ∀ {T : List AskD}, Inv T → Inv (freeT T ids).2 := by
  induction ids with
  | nil => intro T h; exact h
  | cons id r ih =>
    intro T h
    unfold freeT
    split
    · exact h
    · exact ih (h.erase _)

theorem holdT_length (T : List AskD) (k : Nat) : (holdT T k).length = T.length := by unfold holdT; rw [List.length_modify]
theorem askT_length (T : List AskD) (id : Int) (ws : List Wt) : (askT T id ws).2.length ≤ T.length + 1 := by
  unfold askT; split
  · simp
  · split <;> simp
theorem grantT_length (ids : List Int) : ∀ (T : List AskD), (grantT T ids).2.length = T.length := by
  induction ids with
  | nil => intro T; rfl
  | cons id r ih =>
    intro T
    unfold grantT
    split
    · rfl
    · split
      · rfl
      · split
        · rw [ih, holdT_length]
        · rfl
theorem freeT_length (ids : List Int) : ∀ (T : List AskD), (freeT T ids).2.length ≤ T.length := by
  induction ids with
  | nil => intro T; exact Nat.le_refl _
  | cons id r ih =>
    intro T
    unfold freeT
    split
    · exact Nat.le_refl _
    · exact Nat.le_trans (ih _) (by rw [List.length_eraseIdx]; split <;> omega)

theorem mem_ids {T : List AskD} {pr : Nat → Bool} {x : Int} : x ∈ idsT T pr ↔ ∃ (i : Nat) (a : AskD), T[i]? = some a ∧ pr i = true ∧ a.id = x := by
  unfold idsT
  rw [List.mem_map]
  constructor
  · rintro ⟨⟨a, i⟩, h, rfl⟩
    rw [List.mem_filter, List.mem_zipIdx_iff_getElem?] at h
    exact ⟨i, a, h.1, h.2, rfl⟩
  · rintro ⟨i, a, h1, h2, rfl⟩
    exact ⟨(a, i), by rw [List.mem_filter, List.mem_zipIdx_iff_getElem?]; exact ⟨h1, h2⟩, rfl⟩

theorem ids_nodup {T : List AskD} (h : Inv T) (pr : Nat → Bool) : (idsT T pr).Nodup := by
  unfold idsT List.Nodup
  rw [List.pairwise_map]
  refine List.Pairwise.filter _ ?_
  rw [List.pairwise_iff_getElem]
  intro i j hi hj hij
  rw [List.getElem_zipIdx, List.getElem_zipIdx]
  simp only [List.length_zipIdx] at hi hj
  exact h.ids i j _ _ (List.getElem?_eq_getElem hi) (List.getElem?_eq_getElem hj) (by omega)

theorem held_get {T : List AskD} {i : Nat} {a : AskD} (h : T[i]? = some a) : heldT T i = a.held := by simp [heldT, h]

theorem wantsT_at {T : List AskD} (h : Inv T) {i : Nat} {a : AskD} (ha : T[i]? = some a) : wantsT T a.id = a.ws := by
  by_cases hneg : findT T a.id < 0
  · exact absurd rfl (findT_none hneg a (List.mem_of_getElem? ha))
  · obtain ⟨b, hb, he⟩ := findT_some hneg
    unfold wantsT
    rw [if_neg hneg, hb]
    by_cases hi : (findT T a.id).toNat = i
    · rw [hi, ha] at hb
      injection hb with hb
      subst hb; rfl
    · exact absurd he (h.ids _ i b a hb ha hi)

/-- no two that hold clash -/
theorem safe_pair {T : List AskD} (h : Inv T) {p q : Nat} {x y : Int} (hp : (sortedI (idsT T (heldT T)))[p]? = some x) (hq : (sortedI (idsT T (heldT T)))[q]? = some y) (hpq : p ≠ q) :
    clashL (wantsT T x) (wantsT T y) = false := by
  have hnd : (sortedI (idsT T (heldT T))).Nodup := (sortedI_perm _).nodup_iff.2 (ids_nodup h _)
  have hxy : x ≠ y := by
    rintro rfl
    obtain ⟨hp1, hp2⟩ := List.getElem?_eq_some_iff.1 hp
    obtain ⟨hq1, hq2⟩ := List.getElem?_eq_some_iff.1 hq
    rw [List.Nodup, List.pairwise_iff_getElem] at hnd
    rcases Nat.lt_or_gt_of_ne hpq with hlt | hlt
    · exact hnd p q hp1 hq1 hlt (hp2.trans hq2.symm)
    · exact hnd q p hq1 hp1 hlt (hq2.trans hp2.symm)
  obtain ⟨i, a, ha, h1, rfl⟩ := mem_ids.1 ((sortedI_perm _).mem_iff.1 (List.mem_of_getElem? hp))
  obtain ⟨j, b, hb, h2, rfl⟩ := mem_ids.1 ((sortedI_perm _).mem_iff.1 (List.mem_of_getElem? hq))
  rw [wantsT_at h ha, wantsT_at h hb]
  refine h.apart i j a b ha hb (fun e => ?_) (by rw [← held_get ha]; exact h1) (by rw [← held_get hb]; exact h2)
  subst e
  rw [ha] at hb
  injection hb with hb
  exact hxy (by rw [hb])

def Free1 (T : List AskD) : Prop := ∀ a ∈ T, a.held = false
theorem free1_of {T : List AskD} (h : (sortedI (idsT T (heldT T))).length = 0) : Free1 T := by
  intro a ha
  rw [sortedI_length] at h
  obtain ⟨i, hi⟩ := List.mem_iff_getElem?.1 ha
  cases hh : a.held with
  | false => rfl
  | true =>
    have hm : a.id ∈ idsT T (heldT T) := mem_ids.2 ⟨i, a, hi, by rw [held_get hi, hh], rfl⟩
    rw [List.eq_nil_of_length_eq_zero h] at hm
    simp at hm
theorem free1_ids {T : List AskD} (h : Free1 T) : idsT T (heldT T) = [] := by
  rw [List.eq_nil_iff_forall_not_mem]
  intro x hx
  obtain ⟨i, a, ha, hp, _⟩ := mem_ids.1 hx
  rw [held_get ha, h a (List.mem_of_getElem? ha)] at hp
  cases hp

theorem ready0 {a : AskD} {r : List AskD} (h : Free1 (a :: r)) : readyT (a :: r) 0 = true := by
  unfold readyT blockedT
  simp only [List.getElem?_cons_zero]
  rw [h a (by simp), Bool.not_false, Bool.and_true, Bool.not_eq_true', List.any_eq_false]
  rintro ⟨b, j⟩ hb
  rw [List.mem_zipIdx_iff_getElem?] at hb
  simp [blk1, h b (List.mem_of_getElem? hb)]

theorem ids_cons {a : AskD} {r : List AskD} {pr : Nat → Bool} (h : pr 0 = true) : ∃ s, idsT (a :: r) pr = a.id :: s := by
  unfold idsT
  rw [List.zipIdx_cons, List.filter_cons, if_pos h]
  exact ⟨_, rfl⟩

/-- where some wait, and none holds, the first one is ready -/
theorem first_ready {T : List AskD} (h : Free1 T) (hw : T ≠ []) : ∃ x r1 r2, idsT T (readyT T) = x :: r1 ∧ idsT T (fun k => !heldT T k) = x :: r2 := by
  cases T with
  | nil => exact absurd rfl hw
  | cons a r =>
    obtain ⟨s1, h1⟩ := ids_cons (a := a) (r := r) (ready0 h)
    obtain ⟨s2, h2⟩ := ids_cons (a := a) (r := r) (pr := fun k => !heldT (a :: r) k) (by simp [heldT, h a (by simp)])
    exact ⟨_, _, _, h1, h2⟩

theorem hold_held {T : List AskD} {k i : Nat} (h : heldT T i = true) : heldT (holdT T k) i = true := by
  unfold heldT at h ⊢
  unfold holdT
  rw [List.getElem?_modify]
  cases hT : T[i]? with
  | none => rw [hT] at h; cases h
  | some b =>
    rw [hT] at h
    simp only [Option.map_eq_map, Option.map_some]
    split <;> first | rfl | exact h
theorem hold_at {T : List AskD} {k : Nat} (h : k < T.length) : heldT (holdT T k) k = true := by
  unfold heldT holdT
  rw [List.getElem?_modify, List.getElem?_eq_getElem h]
  simp
theorem grant_held (ids : List Int) : ∀ {T : List AskD} {i : Nat}, heldT T i = true → heldT (grantT T ids).2 i = true := by
  induction ids with
  | nil => intro T i h; exact h
  | cons id r ih =>
    intro T i h
    unfold grantT
    split
    · exact h
    · split
      · exact h
      · split
        · exact ih (hold_held h)
        · exact h

theorem grant_first {T : List AskD} (h : Free1 T) (hw : T ≠ []) : heldT (grantT T (idsT T (readyT T))).2 0 = true := by
  cases T with
  | nil => exact absurd rfl hw
  | cons a r =>
    obtain ⟨s1, h1⟩ := ids_cons (a := a) (r := r) (ready0 h)
    rw [h1]
    unfold grantT
    have hf : findT (a :: r) a.id = 0 := by simp [findT]
    rw [hf]
    have h2 : heldT (a :: r) 0 = false := by simp [heldT, h a (by simp)]
    simp only [Int.toNat_zero]
    rw [if_neg (by omega), h2, ready0 h]
    simp only [Bool.false_eq_true, if_false, if_true]
    exact grant_held _ (hold_at (by simp))

theorem held_ids {T : List AskD} {i : Nat} (h : heldT T i = true) : (sortedI (idsT T (heldT T))).length ≠ 0 := by
  intro h0
  have hf := free1_of h0
  cases hT : T[i]? with
  | none => simp [heldT, hT] at h
  | some a => rw [held_get hT, hf a (List.mem_of_getElem? hT)] at h; cases h

theorem free_all (ids : List Int) : ∀ {T : List AskD}, Inv T → ids.Nodup → (∀ x ∈ ids, ∃ a ∈ T, a.id = x) → (∀ a ∈ (freeT T ids).2, a ∈ T ∧ a.id ∉ ids) ∧ (freeT T ids).2.length + ids.length = T.length := by
  induction ids with
  | nil => intro T _ _ _; exact ⟨fun a ha => ⟨ha, by simp⟩, rfl⟩
  | cons x r ih =>
    intro T h hnd hall
    have hneg : ¬ findT T x < 0 := by
      intro hneg
      obtain ⟨a, ha, he⟩ := hall x (by simp)
      exact findT_none hneg a ha he
    obtain ⟨b, hb, hbx⟩ := findT_some hneg
    unfold freeT
    rw [if_neg hneg]
    generalize (findT T x).toNat = k at *
    rw [List.nodup_cons] at hnd
    have hmem : ∀ a ∈ T.eraseIdx k, a ∈ T ∧ a.id ≠ x := fun a ha => by
      obtain ⟨i, hi⟩ := List.mem_iff_getElem?.1 ha
      have hi := erase_get hi
      refine ⟨List.mem_of_getElem? hi, ?_⟩
      rw [← hbx]
      refine h.ids _ _ a b hi hb ?_
      unfold skipAt; split <;> omega
    have hkl : k < T.length := (List.getElem?_eq_some_iff.1 hb).1
    obtain ⟨h1, h2⟩ := ih (h.erase k) hnd.2 (fun y hy => by
      obtain ⟨a, ha, he⟩ := hall y (by simp [hy])
      refine ⟨a, ?_, he⟩
      obtain ⟨i, hi⟩ := List.mem_iff_getElem?.1 ha
      have hik : i ≠ k := by
        rintro rfl
        rw [hb] at hi
        injection hi with hi
        subst hi
        rw [hbx] at he
        subst he
        exact hnd.1 hy
      refine List.mem_iff_getElem?.2 ⟨if i < k then i else i - 1, ?_⟩
      rw [List.getElem?_eraseIdx]
      by_cases hlt : i < k
      · rw [if_pos hlt, if_pos hlt]; exact hi
      · rw [if_neg hlt, if_neg (by omega), show i - 1 + 1 = i by omega]; exact hi)
    refine ⟨fun a ha => ?_, ?_⟩
    · obtain ⟨h3, h4⟩ := h1 a ha
      obtain ⟨h5, h6⟩ := hmem a h3
      exact ⟨h5, by simp [h6, h4]⟩
    · rw [List.length_eraseIdx, if_pos hkl] at h2
      simp only [List.length_cons]; omega

/-- all that hold are freed -/
theorem free_held {T : List AskD} (h : Inv T) : Free1 (freeT T (sortedI (idsT T (heldT T)))).2 ∧ (freeT T (sortedI (idsT T (heldT T)))).2.length + (sortedI (idsT T (heldT T))).length = T.length := by
  obtain ⟨h1, h2⟩ := free_all (sortedI (idsT T (heldT T))) h ((sortedI_perm _).nodup_iff.2 (ids_nodup h _)) (fun x hx => by
    obtain ⟨i, a, ha, _, he⟩ := mem_ids.1 ((sortedI_perm _).mem_iff.1 hx)
    exact ⟨a, List.mem_of_getElem? ha, he⟩)
  refine ⟨fun a ha => ?_, h2⟩
  obtain ⟨h3, h4⟩ := h1 a ha
  cases hh : a.held with
  | false => rfl
  | true =>
    obtain ⟨i, hi⟩ := List.mem_iff_getElem?.1 h3
    exact absurd ((sortedI_perm _).mem_iff.2 (mem_ids.2 ⟨i, a, hi, by rw [held_get hi, hh], rfl⟩)) h4
end Go.Proofs.Ytinpihplkikldaa
