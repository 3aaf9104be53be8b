/- Parts of this proof, one behind the other: LxA, PgA, PgB, PgC, PgL, PgN, ParRe. -/
import Derived.Test.YtlakeanldbdedaaGreatPr47
import Derived.Test.YtlakeanldbdedaaGreatPr45
import Derived.Test.YtlakeanldbdedaaGreatPr16
import Derived.Test.YtlakeanldbdedaaGreatPr21
import Derived.Test.YtlakeanldbdedaaGreatPr31
import Derived.Deep.Cut
namespace Go.Proofs.YtlakeanldbdedaaGreat
open Go.RowKit Go.Afx

/-- a word, wherever it stands -/
def key (x : Wd) : Int × ByteArray × Int := (x.kind, x.text, x.n)
def keyX (x : Nx) : Int × ByteArray × Int := (x.kind, str x.text, x.n)
inductive LexR : List UInt8 → List (Int × ByteArray × Int) → Prop
  | nil : LexR [] []
  | cons {s : List UInt8} {x : Nx} {ks : List (Int × ByteArray × Int)} (hs : s ≠ []) (hx : nextX s = some x) (h : LexR ((s.drop x.len).drop (blk false (s.drop x.len))) ks) : LexR s (keyX x :: ks)
/-- .. behind blanks -/
def LexB (s : List UInt8) (ks : List (Int × ByteArray × Int)) : Prop := LexR (s.drop (blk false s)) ks
theorem lexR_of : ∀ (f a : Nat) (s : List UInt8) (ws : List Wd), lexH f a s = .inr ws → LexR s (ws.map key) := by
  intro f
  induction f with
  | zero => intro a s ws h; cases h
  | succ f ih =>
    intro a s ws h
    by_cases hs : s = []
    · subst hs
      have h : (Sum.inr [] : Nat ⊕ List Wd) = .inr ws := h
      cases h
      exact .nil
    · rw [lexH_go _ _ _ hs] at h
      cases hn : nextX s with
      | none => rw [hn] at h; cases h
      | some x =>
        rw [hn] at h
        simp only at h
        cases hr : lexH f (a + x.len + blk false (s.drop x.len)) ((s.drop x.len).drop (blk false (s.drop x.len))) with
        | inl e => rw [hr] at h; cases h
        | inr l =>
          rw [hr] at h
          have h : (Sum.inr (⟨x.kind, str x.text, x.n, a⟩ :: l) : Nat ⊕ List Wd) = .inr ws := h
          cases h
          exact .cons hs hn (ih _ _ _ hr)
theorem lexH_of {s : List UInt8} {ks : List (Int × ByteArray × Int)} (h : LexR s ks) : ∀ (f a : Nat), s.length < f → ∃ ws, lexH f a s = .inr ws ∧ ws.map key = ks := by
  induction h with
  | nil =>
    intro f a hf
    obtain ⟨f, rfl⟩ : ∃ k, f = k + 1 := ⟨f - 1, by omega⟩
    exact ⟨[], rfl, rfl⟩
  | @cons s x ks hs hx h ih =>
    intro f a hf
    obtain ⟨f, rfl⟩ : ∃ k, f = k + 1 := ⟨f - 1, by omega⟩
    obtain ⟨l1, l2⟩ := next_len hx
    obtain ⟨ws, h1, h2⟩ := ih f (a + x.len + blk false (s.drop x.len)) (by rw [List.length_drop, List.length_drop]; omega)
    refine ⟨⟨x.kind, str x.text, x.n, a⟩ :: ws, ?_, by rw [List.map_cons, h2]; rfl⟩
    rw [lexH_go _ _ _ hs, hx]
    simp only
    rw [h1]
    rfl
theorem lexB_of {L : List UInt8} {ws : List Wd} (h : lexL L = .inr ws) : LexB L (ws.map key) := lexR_of _ _ _ _ h
theorem lexL_of {L : List UInt8} {ks : List (Int × ByteArray × Int)} (h : LexB L ks) : ∃ ws, lexL L = .inr ws ∧ ws.map key = ks := lexH_of h _ _ (by rw [List.length_drop]; omega)
/- what stands behind -/
theorem takeW_app {s : List UInt8} {c : UInt8} (hc : lexB c = false) (T : List UInt8) : (s ++ c :: T).takeWhile lexB = s.takeWhile lexB := by
  induction s with
  | nil => simp [hc]
  | cons d s ih =>
    rw [List.cons_append, List.takeWhile_cons, List.takeWhile_cons, ih]
theorem quo_app {c : UInt8} (hc : c.toNat ≠ 39) (T : List UInt8) : ∀ (k : Nat) (s acc : List UInt8) (i : Nat) (r : List UInt8 × Nat), s.length ≤ k → quo s acc i = some r → quo (s ++ c :: T) acc i = some r := by
  intro k
  induction k with
  | zero =>
    intro s acc i r hk h
    obtain rfl : s = [] := List.eq_nil_of_length_eq_zero (by omega)
    simp [quo] at h
  | succ k ih =>
    intro s acc i r hk h
    cases s with
    | nil => simp [quo] at h
    | cons d s =>
      obtain ⟨q1, q2, q3⟩ := quo_at (c := d) (r := s) (acc := acc) (i := i)
      obtain ⟨p1, p2, p3⟩ := quo_at (c := d) (r := s ++ c :: T) (acc := acc) (i := i)
      rw [List.cons_append]
      simp only [List.length_cons] at hk
      by_cases e10 : d.toNat = 10
      · rw [q1 e10] at h; cases h
      · by_cases e39 : d.toNat = 39
        · obtain ⟨q4, q5⟩ := q3 e39
          obtain ⟨p4, p5⟩ := p3 e39
          cases s with
          | nil =>
            rw [q5 (by simp)] at h
            rw [p5 (by simp; exact fun e => hc (by rw [e]; rfl))]
            exact h
          | cons d2 s2 =>
            by_cases e2 : d2 = 39
            · subst e2
              rw [q4 rfl] at h
              rw [p4 rfl]
              exact ih _ _ _ _ (by simp at hk ⊢; omega) h
            · rw [q5 (by simpa using e2)] at h
              rw [p5 (by simpa using e2)]
              exact h
        · rw [q2 e10 e39] at h
          rw [p2 e10 e39]
          exact ih _ _ _ _ (by omega) h
theorem sign_app {c : UInt8} (hc : c ≠ 61) {s : List UInt8} (hs : s ≠ []) (T : List UInt8) : signX (s ++ c :: T) = signX s := by
  have key : ∀ g ∈ signsL, g.isPrefixOf (s ++ c :: T) = g.isPrefixOf s := by
    intro g hg
    obtain ⟨a, r, rfl⟩ : ∃ a r, s = a :: r := by cases s with | nil => exact absurd rfl hs | cons a r => exact ⟨a, r, rfl⟩
    have hg2 : (∃ x, g = [x]) ∨ (∃ x, g = [x, 61]) := by
      revert hg
      have : ∀ g ∈ signsL, (∃ x, g = [x]) ∨ (∃ x, g = [x, 61]) := by
        intro g hg
        simp only [signsL, List.mem_cons, List.not_mem_nil, or_false] at hg
        rcases hg with rfl | rfl | rfl | rfl | rfl | rfl | rfl | rfl | rfl | rfl | rfl | rfl | rfl | rfl | rfl | rfl | rfl | rfl | rfl | rfl | rfl
        all_goals first | exact .inl ⟨_, rfl⟩ | exact .inr ⟨_, rfl⟩
      exact this g
    rcases hg2 with ⟨x, rfl⟩ | ⟨x, rfl⟩
    · simp [List.isPrefixOf]
    · cases r with
      | nil => simp [List.isPrefixOf]; exact fun _ e => hc e.symm
      | cons d r => simp [List.isPrefixOf]
  unfold signX
  congr 1
  clear hs
  have : ∀ l : List (List UInt8), (∀ g ∈ l, g.isPrefixOf (s ++ c :: T) = g.isPrefixOf s) → l.find? (fun g => g.isPrefixOf (s ++ c :: T)) = l.find? (fun g => g.isPrefixOf s) := by
    intro l
    induction l with
    | nil => exact fun _ => rfl
    | cons g l ih =>
      intro h
      rw [List.find?_cons, List.find?_cons, h g (by simp), ih (fun g hg => h g (by simp [hg]))]
  exact this signsL key
theorem nextX_cons (a : UInt8) (r : List UInt8) : nextX (a :: r) = if lexB a then plainX (a :: r) else if a.toNat = 39 then quotedX (a :: r) else signX (a :: r) := by simp [nextX]
/-- the next word is the same with a blank behind the text -/
theorem next_app {s : List UInt8} {x : Nx} (h : nextX s = some x) (c : UInt8) (hc : wsB c = true) (T : List UInt8) : nextX (s ++ c :: T) = some x := by
  have hcl : lexB c = false ∧ c.toNat ≠ 39 ∧ c ≠ 61 := by
    simp only [wsB, Bool.or_eq_true, decide_eq_true_eq] at hc
    refine ⟨?_, by omega, fun e => by subst e; revert hc; decide⟩
    unfold lexB
    rcases hc with (hc | hc) | hc <;> rw [hc] <;> rfl
  have hne : s ≠ [] := by
    rintro rfl
    simp [nextX, signX, signsL, List.isPrefixOf] at h
  obtain ⟨a, r, rfl⟩ : ∃ a r, s = a :: r := by cases s with | nil => exact absurd rfl hne | cons a r => exact ⟨a, r, rfl⟩
  rw [nextX_cons] at h
  rw [List.cons_append, nextX_cons]
  cases h1 : lexB a with
  | true =>
    rw [h1, if_pos rfl] at h
    rw [if_pos rfl]
    unfold plainX at h ⊢
    rw [← List.cons_append, takeW_app hcl.1]
    exact h
  | false =>
    rw [h1, if_neg (by decide)] at h
    rw [if_neg (by decide)]
    by_cases h2 : a.toNat = 39
    · rw [if_pos h2] at h ⊢
      unfold quotedX at h ⊢
      simp only [List.drop_succ_cons, List.drop_zero] at h ⊢
      cases hq : quo r [] 1 with
      | none => rw [hq] at h; cases h
      | some q => rw [hq] at h; rw [quo_app hcl.2.1 T _ _ _ _ _ (Nat.le_refl _) hq]; exact h
    · rw [if_neg h2] at h ⊢
      rw [← List.cons_append, sign_app hcl.2.2 hne]
      exact h
theorem blk_app (T' : List UInt8) : ∀ (s : List UInt8) (b : Bool), (blk b s < s.length → blk b (s ++ 32 :: 10 :: T') = blk b s) ∧ (blk b s = s.length → blk b (s ++ 32 :: 10 :: T') = s.length + 2 + blk false T') := by
  intro s
  induction s with
  | nil =>
    intro b
    refine ⟨fun h => by simp [blk] at h, fun _ => ?_⟩
    cases b <;> simp [blk, wsB] <;> omega
  | cons c s ih =>
    intro b
    have hf := ih false
    have ht := ih true
    cases b with
    | true =>
      simp only [List.cons_append, blk, List.length_cons]
      split
      · exact ⟨fun h => by rw [hf.1 (by omega)], fun h => by rw [hf.2 (by omega)]; omega⟩
      · exact ⟨fun h => by rw [ht.1 (by omega)], fun h => by rw [ht.2 (by omega)]; omega⟩
    | false =>
      simp only [List.cons_append, blk, List.length_cons]
      split
      · exact ⟨fun h => by rw [hf.1 (by omega)], fun h => by rw [hf.2 (by omega)]; omega⟩
      · have hh : (s ++ 32 :: 10 :: T').head? = some 47 ↔ s.head? = some 47 := by
          cases s with
          | nil => simp
          | cons d s => simp
        by_cases h1 : c.toNat = 47 ∧ s.head? = some 47
        · rw [if_pos h1, if_pos ⟨h1.1, hh.2 h1.2⟩]
          exact ⟨fun h => by rw [ht.1 (by omega)], fun h => by rw [ht.2 (by omega)]; omega⟩
        · rw [if_neg h1, if_neg (fun h => h1 ⟨h.1, hh.1 h.2⟩)]
          exact ⟨fun _ => rfl, fun h => by omega⟩
/-- a text with something behind a blank and a new line -/
theorem lexB_app {T' : List UInt8} {ks' : List (Int × ByteArray × Int)} (hT : LexB T' ks') {r : List UInt8} {ks : List (Int × ByteArray × Int)} (h : LexR r ks) : ∀ s : List UInt8, s.drop (blk false s) = r → LexB (s ++ 32 :: 10 :: T') (ks ++ ks') := by
  induction h with
  | nil =>
    intro s hs
    have hb := blk_le s false
    have e : blk false s = s.length := by
      have := congrArg List.length hs
      rw [List.length_drop] at this
      simp at this
      omega
    unfold LexB
    rw [((blk_app T' s false).2 e)]
    rw [show s.length + 2 + blk false T' = s.length + (2 + blk false T') by omega, ← List.drop_drop, List.drop_left, show (2 + blk false T') = blk false T' + 1 + 1 by omega, List.drop_succ_cons, List.drop_succ_cons]
    exact hT
  | @cons r x ks hr hx h ih =>
    intro s hs
    have hlt : blk false s < s.length := by
      rcases Nat.lt_or_ge (blk false s) s.length with h | h
      · exact h
      · rw [List.drop_eq_nil_of_le h] at hs; exact absurd hs.symm hr
    unfold LexB
    rw [((blk_app T' s false).1 hlt), List.drop_append_of_le_length (by omega), hs]
    refine .cons (by cases r with | nil => exact absurd rfl hr | cons a r => simp) (next_app hx 32 (by decide) (10 :: T')) ?_
    obtain ⟨_, l2⟩ := next_len hx
    rw [List.drop_append_of_le_length l2]
    exact ih _ rfl
/-- parentheses, blanks and a remark around a text -/
def tailT : List UInt8 := [41, 32, 47, 47, 32, 41, 32, 109, 111, 114, 101, 10]
def wrapT (s : List UInt8) : List UInt8 := 32 :: 40 :: 32 :: (s ++ 32 :: 10 :: tailT)
theorem lexB_tail : LexB tailT [(0, str [41], 0)] := by
  have h : LexR tailT [keyX ⟨0, [41], 0, 1⟩] := .cons (by decide) (by rfl) .nil
  exact h
theorem lexB_wrap {s : List UInt8} {ks : List (Int × ByteArray × Int)} (h : LexB s ks) : LexB (wrapT s) ((0, str [40], 0) :: ks ++ [(0, str [41], 0)]) := by
  have h1 := lexB_app lexB_tail h s rfl
  have h2 : LexR (40 :: 32 :: (s ++ 32 :: 10 :: tailT)) (keyX ⟨0, [40], 0, 1⟩ :: (ks ++ [(0, str [41], 0)])) := by
    refine .cons (by simp) ?_ ?_
    · simp [nextX, signX, signsL, List.isPrefixOf, lexB]
    · show LexR ((32 :: (s ++ 32 :: 10 :: tailT)).drop (blk false (32 :: (s ++ 32 :: 10 :: tailT)))) _
      have e : blk false (32 :: (s ++ 32 :: 10 :: tailT)) = blk false (s ++ 32 :: 10 :: tailT) + 1 := by
        show (if wsB 32 then _ else _) = _
        rw [if_pos (by decide)]
        omega
      rw [e, List.drop_succ_cons]
      exact h1
  unfold LexB
  have e : blk false (wrapT s) = 1 := by
    show (if wsB 32 then 1 + (if wsB 40 then _ else if (40 : UInt8).toNat = 47 ∧ _ then _ else 0) else _) = _
    rw [if_pos (by decide), if_neg (by decide), if_neg (fun h => absurd h.1 (by decide))]
  rw [e]
  exact h2
end Go.Proofs.YtlakeanldbdedaaGreat

namespace Go.Proofs.YtlakeanldbdedaaGreat
open Go.RowKit Go.Afx

abbrev clS : ByteArray := str [41]
inductive Pg (b : Bool) (α : Type) : Type where
  | ret (a : α)
  | out (k : Pg b α)
  | may (t : ByteArray) (k : Bool → Pg b α)
  | mayE (t : ByteArray) (k : Bool → Pg b α)
  | must (t : ByteArray) (k : Pg b α)
  | mustE (t : ByteArray) (k : Pg b α)
  | leave (k : Pg b α)
  | fail (k : Pg b α)
  | name (k : ByteArray → Pg b α)
  | num (k : Int → Pg b α)
  | txt (k : ByteArray → Pg b α)
  | bad (k : Bool → Pg b α)
  | knd (n : Bool) (k : Bool → Pg b α)
  | is (t : ByteArray) (k : Bool → Pg b α)
  | close (h : b = true) (k : Bool → Pg b α)
  | zero (k : Pg b α)
variable {b : Bool} {α β : Type}
def mayQ (W : Wds) (t : ByteArray) (s : PSt) : Bool × PSt := if t = clS then (false, s) else mayP W t s
def isQ (W : Wds) (t : ByteArray) (s : PSt) : Bool := if t = clS then false else isP W s t
def txtP (W : Wds) (s : PSt) : ByteArray × PSt := if s.bad then (nil0, s) else if (W.look s.at_).kind = 2 then ((W.look s.at_).text, s.on) else (nil0, s.fail)
def zeroQ (W : Wds) (s : PSt) : PSt := if (W.look s.at_).kind = 1 ∧ (W.look s.at_).n = 0 then s.fail else s
def kndQ (W : Wds) (n : Bool) (s : PSt) : Bool := decide ((W.look s.at_).kind = if n then 1 else 2)
def entQ (p : Bool × PSt) : PSt := if p.1 then enterP p.2 else p.2
def Pg.run (W : Wds) : Pg b α → PSt → α × PSt
  | .ret a, s => (a, s)
  | .out k, s => k.run W s
  | .may t k, s => (k (mayQ W t s).1).run W (mayQ W t s).2
  | .mayE t k, s => (k (mayQ W t s).1).run W (entQ (mayQ W t s))
  | .must t k, s => k.run W (mustP W [t] s)
  | .mustE t k, s => k.run W (enterP (mustP W [t] s))
  | .leave k, s => k.run W (leaveP s)
  | .fail k, s => k.run W s.fail
  | .name k, s => (k (nameP W s).1).run W (nameP W s).2
  | .num k, s => (k (numP W s).1).run W (numP W s).2
  | .txt k, s => (k (txtP W s).1).run W (txtP W s).2
  | .bad k, s => (k s.bad).run W s
  | .knd n k, s => (k (kndQ W n s)).run W s
  | .is t k, s => (k (isQ W t s)).run W s
  | .close _ k, s => (k (isP W s clS)).run W s
  | .zero k, s => k.run W (zeroQ W s)
def Pg.bind : Pg b α → (α → Pg b β) → Pg b β
  | .ret a, f => f a
  | .out k, f => .out (k.bind f)
  | .may t k, f => .may t fun x => (k x).bind f
  | .mayE t k, f => .mayE t fun x => (k x).bind f
  | .must t k, f => .must t (k.bind f)
  | .mustE t k, f => .mustE t (k.bind f)
  | .leave k, f => .leave (k.bind f)
  | .fail k, f => .fail (k.bind f)
  | .name k, f => .name fun x => (k x).bind f
  | .num k, f => .num fun x => (k x).bind f
  | .txt k, f => .txt fun x => (k x).bind f
  | .bad k, f => .bad fun x => (k x).bind f
  | .knd n k, f => .knd n fun x => (k x).bind f
  | .is t k, f => .is t fun x => (k x).bind f
  | .close h k, f => .close h fun x => (k x).bind f
  | .zero k, f => .zero (k.bind f)
theorem run_bind (W : Wds) (p : Pg b α) (f : α → Pg b β) : ∀ s, (p.bind f).run W s = (f (p.run W s).1).run W (p.run W s).2 := by
  induction p with
  | ret a => exact fun s => rfl
  | out k ih => exact fun s => ih s
  | may t k ih => exact fun s => ih _ _
  | mayE t k ih => exact fun s => ih _ _
  | must t k ih => exact fun s => ih _
  | mustE t k ih => exact fun s => ih _
  | leave k ih => exact fun s => ih _
  | fail k ih => exact fun s => ih _
  | name k ih => exact fun s => ih _ _
  | num k ih => exact fun s => ih _ _
  | txt k ih => exact fun s => ih _ _
  | bad k ih => exact fun s => ih _ _
  | knd n k ih => exact fun s => ih _ _
  | is t k ih => exact fun s => ih _ _
  | close h k ih => exact fun s => ih _ _
  | zero k ih => exact fun s => ih _
/-- it never runs out -/
def Pg.Safe (W : Wds) : Pg b α → PSt → Prop
  | .ret _, _ => True
  | .out _, _ => False
  | .may t k, s => (k (mayQ W t s).1).Safe W (mayQ W t s).2
  | .mayE t k, s => (k (mayQ W t s).1).Safe W (entQ (mayQ W t s))
  | .must t k, s => k.Safe W (mustP W [t] s)
  | .mustE t k, s => k.Safe W (enterP (mustP W [t] s))
  | .leave k, s => k.Safe W (leaveP s)
  | .fail k, s => k.Safe W s.fail
  | .name k, s => (k (nameP W s).1).Safe W (nameP W s).2
  | .num k, s => (k (numP W s).1).Safe W (numP W s).2
  | .txt k, s => (k (txtP W s).1).Safe W (txtP W s).2
  | .bad k, s => (k s.bad).Safe W s
  | .knd n k, s => (k (kndQ W n s)).Safe W s
  | .is t k, s => (k (isQ W t s)).Safe W s
  | .close _ k, s => (k (isP W s clS)).Safe W s
  | .zero k, s => k.Safe W (zeroQ W s)
theorem safe_bind (W : Wds) (p : Pg b α) (f : α → Pg b β) : ∀ s, p.Safe W s → (f (p.run W s).1).Safe W (p.run W s).2 → (p.bind f).Safe W s := by
  induction p with
  | ret a => exact fun s _ h => h
  | out k ih => exact fun s h => h.elim
  | may t k ih => exact fun s => ih _ _
  | mayE t k ih => exact fun s => ih _ _
  | must t k ih => exact fun s => ih _
  | mustE t k ih => exact fun s => ih _
  | leave k ih => exact fun s => ih _
  | fail k ih => exact fun s => ih _
  | name k ih => exact fun s => ih _ _
  | num k ih => exact fun s => ih _ _
  | txt k ih => exact fun s => ih _ _
  | bad k ih => exact fun s => ih _ _
  | knd n k ih => exact fun s => ih _ _
  | is t k ih => exact fun s => ih _ _
  | close h k ih => exact fun s => ih _ _
  | zero k ih => exact fun s => ih _
/-- with more to go on with -/
inductive Ref : Pg b α → Pg b α → Prop where
  | ret (a : α) : Ref (.ret a) (.ret a)
  | out (k q : Pg b α) : Ref (.out k) q
  | may (t : ByteArray) {k k' : Bool → Pg b α} (h : ∀ x, Ref (k x) (k' x)) : Ref (.may t k) (.may t k')
  | mayE (t : ByteArray) {k k' : Bool → Pg b α} (h : ∀ x, Ref (k x) (k' x)) : Ref (.mayE t k) (.mayE t k')
  | must (t : ByteArray) {k k' : Pg b α} (h : Ref k k') : Ref (.must t k) (.must t k')
  | mustE (t : ByteArray) {k k' : Pg b α} (h : Ref k k') : Ref (.mustE t k) (.mustE t k')
  | leave {k k' : Pg b α} (h : Ref k k') : Ref (.leave k) (.leave k')
  | fail {k k' : Pg b α} (h : Ref k k') : Ref (.fail k) (.fail k')
  | name {k k' : ByteArray → Pg b α} (h : ∀ x, Ref (k x) (k' x)) : Ref (.name k) (.name k')
  | num {k k' : Int → Pg b α} (h : ∀ x, Ref (k x) (k' x)) : Ref (.num k) (.num k')
  | txt {k k' : ByteArray → Pg b α} (h : ∀ x, Ref (k x) (k' x)) : Ref (.txt k) (.txt k')
  | bad {k k' : Bool → Pg b α} (h : ∀ x, Ref (k x) (k' x)) : Ref (.bad k) (.bad k')
  | knd (n : Bool) {k k' : Bool → Pg b α} (h : ∀ x, Ref (k x) (k' x)) : Ref (.knd n k) (.knd n k')
  | is (t : ByteArray) {k k' : Bool → Pg b α} (h : ∀ x, Ref (k x) (k' x)) : Ref (.is t k) (.is t k')
  | close (hb : b = true) {k k' : Bool → Pg b α} (h : ∀ x, Ref (k x) (k' x)) : Ref (.close hb k) (.close hb k')
  | zero {k k' : Pg b α} (h : Ref k k') : Ref (.zero k) (.zero k')
theorem Ref.refl (p : Pg b α) : Ref p p := by
  induction p with
  | ret a => exact .ret a
  | out k ih => exact .out _ _
  | may t k ih => exact .may t ih
  | mayE t k ih => exact .mayE t ih
  | must t k ih => exact .must t ih
  | mustE t k ih => exact .mustE t ih
  | leave k ih => exact .leave ih
  | fail k ih => exact .fail ih
  | name k ih => exact .name ih
  | num k ih => exact .num ih
  | txt k ih => exact .txt ih
  | bad k ih => exact .bad ih
  | knd n k ih => exact .knd n ih
  | is t k ih => exact .is t ih
  | close h k ih => exact .close h ih
  | zero k ih => exact .zero ih
theorem Ref.bind {p q : Pg b α} {f g : α → Pg b β} (h : Ref p q) (hf : ∀ a, Ref (f a) (g a)) : Ref (p.bind f) (q.bind g) := by
  induction h with
  | ret a => exact hf a
  | out k q => exact .out _ _
  | may t h ih => exact .may t ih
  | mayE t h ih => exact .mayE t ih
  | must t h ih => exact .must t ih
  | mustE t h ih => exact .mustE t ih
  | leave h ih => exact .leave ih
  | fail h ih => exact .fail ih
  | name h ih => exact .name ih
  | num h ih => exact .num ih
  | txt h ih => exact .txt ih
  | bad h ih => exact .bad ih
  | knd n h ih => exact .knd n ih
  | is t h ih => exact .is t ih
  | close hb h ih => exact .close hb ih
  | zero h ih => exact .zero ih
theorem Ref.run {W : Wds} {p q : Pg b α} (h : Ref p q) : ∀ {s}, p.Safe W s → p.run W s = q.run W s := by
  induction h with
  | ret a => exact fun _ => rfl
  | out k q => exact fun h => h.elim
  | may t h ih => exact fun hs => ih _ hs
  | mayE t h ih => exact fun hs => ih _ hs
  | must t h ih => exact fun hs => ih hs
  | mustE t h ih => exact fun hs => ih hs
  | leave h ih => exact fun hs => ih hs
  | fail h ih => exact fun hs => ih hs
  | name h ih => exact fun hs => ih _ hs
  | num h ih => exact fun hs => ih _ hs
  | txt h ih => exact fun hs => ih _ hs
  | bad h ih => exact fun hs => ih _ hs
  | knd n h ih => exact fun hs => ih _ hs
  | is t h ih => exact fun hs => ih _ hs
  | close hb h ih => exact fun hs => ih _ hs
  | zero h ih => exact fun hs => ih hs
theorem ge_mayQ (W : Wds) (t : ByteArray) (s : PSt) : Ge s (mayQ W t s).2 := by
  unfold mayQ
  split
  · exact Ge.refl s
  · exact ge_may W t s
theorem ge_entQ (p : Bool × PSt) : Ge p.2 (entQ p) := by
  unfold entQ
  split
  · exact ge_enter _
  · exact Ge.refl _
theorem ge_txt (W : Wds) (s : PSt) : Ge s (txtP W s).2 := by
  unfold txtP
  split
  · exact Ge.refl s
  · split
    · exact ge_on s
    · exact ge_fail s
theorem ge_zero (W : Wds) (s : PSt) : Ge s (zeroQ W s) := by
  unfold zeroQ
  split
  · exact ge_fail s
  · exact Ge.refl s
theorem run_ge (W : Wds) (p : Pg b α) : ∀ s, Ge s (p.run W s).2 := by
  induction p with
  | ret a => exact fun s => Ge.refl s
  | out k ih => exact ih
  | may t k ih => exact fun s => (ge_mayQ W t s).trans (ih _ _)
  | mayE t k ih => exact fun s => ((ge_mayQ W t s).trans (ge_entQ _)).trans (ih _ _)
  | must t k ih => exact fun s => (ge_must W t s).trans (ih _)
  | mustE t k ih => exact fun s => ((ge_must W t s).trans (ge_enter _)).trans (ih _)
  | leave k ih => exact fun s => (ge_leave s).trans (ih _)
  | fail k ih => exact fun s => (ge_fail s).trans (ih _)
  | name k ih => exact fun s => (up_name W s).trans (ih _ _)
  | num k ih => exact fun s => (up_num W s).trans (ih _ _)
  | txt k ih => exact fun s => (ge_txt W s).trans (ih _ _)
  | bad k ih => exact fun s => ih _ _
  | knd n k ih => exact fun s => ih _ _
  | is t k ih => exact fun s => ih _ _
  | close h k ih => exact fun s => ih _ _
  | zero k ih => exact fun s => (ge_zero W s).trans (ih _)
end Go.Proofs.YtlakeanldbdedaaGreat

namespace Go.Proofs.YtlakeanldbdedaaGreat
open Go.RowKit Go.Afx

variable {b : Bool}
abbrev kOr : ByteArray := str [111, 114]
def gOp : List (ByteArray × Int) → Pg b Int
  | [] => .ret 0
  | (t, op) :: r => .may t fun x => if x then .ret op else gOp r
def gChain (l : List (ByteArray × Int)) (one : Pg b Ex) : Nat → Ex → Pg b Ex
  | 0, e => .out (.ret e)
  | f + 1, e => (gOp l).bind fun o => if o = 0 then .ret e else one.bind fun x => gChain l one f (twoP o e x)
def gChain1 (n : Nat) (l : List (ByteArray × Int)) (one : Pg b Ex) : Pg b Ex := one.bind fun e => gChain l one n e
def gRows : Pg b (ByteArray × ByteArray) := .name fun a => .must (str [105, 110]) (.name fun c => .ret (a, c))
def gWhere (E : Pg b Ex) : Pg b Ex := .may (str [119, 104, 101, 114, 101]) fun x => if x then E else .ret (.mk 3 1 nil0 nil0 nil0 [])
def gFoldOp : Pg b Int := .may (str [99, 111, 117, 110, 116]) fun x => if x then .ret 21 else .may (str [115, 117, 109]) fun x => if x then .ret 22 else .may (str [109, 105, 110]) fun x => if x then .ret 23 else .must (str [109, 97, 120]) (.ret 24)
def gFold (E : Pg b Ex) : Pg b Ex := gFoldOp.bind fun o => .mustE (str [40]) (gRows.bind fun r => (gWhere E).bind fun a =>
  if o = 21 then .must (str [41]) (.leave (.ret (.mk 21 0 nil0 r.1 r.2 [a]))) else .must (str [58]) (E.bind fun c => .must (str [41]) (.leave (.ret (.mk o 0 nil0 r.1 r.2 [a, c])))))
def gParen (E : Pg b Ex) : Pg b Ex := .mustE (str [40]) (E.bind fun a => .must (str [41]) (.leave (.ret a)))
def gVar : Pg b Ex := .name fun a => .may (str [46]) fun x => if x then .name fun c => .ret (.mk 5 0 c a nil0 []) else .ret (.mk 4 0 nil0 a nil0 [])
def gSingle (E : Pg b Ex) : Pg b Ex := .bad fun x => if x then .ret ex0 else .knd true fun x => if x then .num fun n => .ret (.mk 1 n nil0 nil0 nil0 []) else .knd false fun x => if x then .txt fun t => .ret (.mk 2 0 t nil0 nil0 [])
  else .may (str [116, 114, 117, 101]) fun x => if x then .ret (.mk 3 1 nil0 nil0 nil0 []) else .may (str [102, 97, 108, 115, 101]) fun x => if x then .ret (.mk 3 0 nil0 nil0 nil0 [])
  else .is (str [99, 111, 117, 110, 116]) fun p => .is (str [115, 117, 109]) fun q => .is (str [109, 105, 110]) fun r => .is (str [109, 97, 120]) fun u => if p || q || r || u then gFold E
  else .is (str [40]) fun x => if x then gParen E else gVar
def gSigned (E : Pg b Ex) : Nat → Pg b Ex
  | 0 => .out (.ret ex0)
  | f + 1 => .mayE (str [45]) fun x => if x then (gSigned E f).bind fun a => .leave (.ret (oneP 20 a)) else gSingle E
def gProduct (n : Nat) (E : Pg b Ex) : Pg b Ex := gChain1 n lvMul (gSigned E n)
def gSum (n : Nat) (E : Pg b Ex) : Pg b Ex := gChain1 n lvSum (gProduct n E)
def gCmp (n : Nat) (E : Pg b Ex) : Pg b Ex := (gSum n E).bind fun a => (gOp lvCmp).bind fun o => if o = 0 then .ret a else (gSum n E).bind fun c => .ret (twoP o a c)
def gNot (n : Nat) (E : Pg b Ex) : Nat → Pg b Ex
  | 0 => .out (.ret ex0)
  | f + 1 => .mayE (str [110, 111, 116]) fun x => if x then (gNot n E f).bind fun a => .leave (.ret (oneP 19 a)) else gCmp n E
def gBoth (n : Nat) (E : Pg b Ex) : Pg b Ex := gChain1 n lvAnd (gNot n E n)
def gExpr (n : Nat) : Nat → Pg b Ex
  | 0 => .out (.ret ex0)
  | f + 1 => gChain1 n lvOr (gBoth n (gExpr n f))
/-- none of these is a closing parenthesis -/
def Lv (l : List (ByteArray × Int)) : Prop := ∀ p ∈ l, p.1 ≠ clS ∧ 1 ≤ p.2
theorem lv_or : Lv lvOr := by unfold Lv; decide
theorem lv_and : Lv lvAnd := by unfold Lv; decide
theorem lv_cmp : Lv lvCmp := by unfold Lv; decide
theorem lv_sum : Lv lvSum := by unfold Lv; decide
theorem lv_mul : Lv lvMul := by unfold Lv; decide
theorem mayQ_eq {W : Wds} {t : ByteArray} {s : PSt} (h : t ≠ clS) : mayQ W t s = mayP W t s := by unfold mayQ; rw [if_neg h]
theorem isQ_eq {W : Wds} {t : ByteArray} {s : PSt} (h : t ≠ clS) : isQ W t s = isP W s t := by unfold isQ; rw [if_neg h]
theorem run_op (W : Wds) : ∀ (l : List (ByteArray × Int)), Lv l → ∀ s, (gOp l : Pg b Int).run W s = opP W l s := by
  intro l
  induction l with
  | nil => exact fun _ s => rfl
  | cons p l ih =>
    intro h s
    obtain ⟨t, op⟩ := p
    have h1 := (h (t, op) (by simp)).1
    have ih := ih (fun q hq => h q (by simp [hq]))
    show (if (mayQ W t s).1 then (.ret op : Pg b Int) else gOp l).run W (mayQ W t s).2 = if (mayP W t s).1 then (op, (mayP W t s).2) else opP W l s
    rw [mayQ_eq h1]
    rcases may_cases W t s with e | ⟨e, _⟩
    · rw [e]; exact ih s
    · rw [e]; rfl
theorem run_chain (W : Wds) (l : List (ByteArray × Int)) (hl : Lv l) (one : Pg b Ex) : ∀ k e s, (gChain l one k e).run W s = chainP W l (one.run W) k e s := by
  intro k
  induction k with
  | zero => exact fun e s => rfl
  | succ k ih =>
    intro e s
    show ((gOp l).bind _).run W s = if (opP W l s).1 = 0 then (e, (opP W l s).2) else _
    rw [run_bind, run_op W l hl]
    split
    · rfl
    · rw [run_bind]
      exact ih _ _
theorem run_chain1 (W : Wds) (l : List (ByteArray × Int)) (hl : Lv l) (one : Pg b Ex) (s : PSt) : (gChain1 W.fuel l one).run W s = chain1 W l (one.run W) s := by
  unfold gChain1
  rw [run_bind]
  exact run_chain W l hl one _ _ _
theorem run_rows (W : Wds) (s : PSt) : (gRows : Pg b _).run W s = rowsP W s := rfl
theorem run_where (W : Wds) (E : Pg b Ex) (s : PSt) : (gWhere E).run W s = whereP W (E.run W) s := by
  show (if (mayQ W _ s).1 then E else .ret _).run W (mayQ W _ s).2 = _
  rw [mayQ_eq (by decide)]
  unfold whereP
  rcases may_cases W (str [119, 104, 101, 114, 101]) s with e | ⟨e, _⟩
  · rw [e]; rfl
  · rw [e]; rfl
theorem run_foldOp (W : Wds) (s : PSt) : (gFoldOp : Pg b _).run W s = foldOp W s := by
  unfold gFoldOp foldOp
  rcases may_cases W (str [99, 111, 117, 110, 116]) s with e | ⟨e, _⟩
  · show (if (mayQ W _ s).1 then (.ret 21 : Pg b Int) else _).run W (mayQ W _ s).2 = _
    rw [mayQ_eq (by decide), e]
    rcases may_cases W (str [115, 117, 109]) s with e | ⟨e, _⟩
    · show (if (mayQ W _ s).1 then (.ret 22 : Pg b Int) else _).run W (mayQ W _ s).2 = _
      rw [mayQ_eq (by decide), e]
      rcases may_cases W (str [109, 105, 110]) s with e | ⟨e, _⟩
      · show (if (mayQ W _ s).1 then (.ret 23 : Pg b Int) else _).run W (mayQ W _ s).2 = _
        rw [mayQ_eq (by decide), e]
        rfl
      · show (if (mayQ W _ s).1 then (.ret 23 : Pg b Int) else _).run W (mayQ W _ s).2 = _
        rw [mayQ_eq (by decide), e]
        rfl
    · show (if (mayQ W _ s).1 then (.ret 22 : Pg b Int) else _).run W (mayQ W _ s).2 = _
      rw [mayQ_eq (by decide), e]
      rfl
  · show (if (mayQ W _ s).1 then (.ret 21 : Pg b Int) else _).run W (mayQ W _ s).2 = _
    rw [mayQ_eq (by decide), e]
    rfl
theorem run_fold (W : Wds) (E : Pg b Ex) (s : PSt) : (gFold E).run W s = foldP W (E.run W) s := by
  unfold gFold foldP
  rw [run_bind, run_foldOp]
  show (Pg.bind _ _).run W (enterP (mustP W [str [40]] (foldOp W s).2)) = _
  rw [run_bind, run_rows, run_bind, run_where]
  split
  · rename_i h
    simp only [h, if_true]
    rfl
  · rename_i h
    simp only [h, if_false]
    show (Pg.bind _ _).run W (mustP W [str [58]] _) = _
    rw [run_bind]
    rfl
theorem run_paren (W : Wds) (E : Pg b Ex) (s : PSt) : (gParen E).run W s = parenP W (E.run W) s := by
  show (Pg.bind _ _).run W (enterP (mustP W [str [40]] s)) = _
  rw [run_bind]
  rfl
theorem run_var (W : Wds) (s : PSt) : (gVar : Pg b Ex).run W s = varP W s := by
  show (if (mayQ W _ (nameP W s).2).1 then (Pg.name _ : Pg b Ex) else .ret _).run W (mayQ W _ (nameP W s).2).2 = _
  rw [mayQ_eq (by decide), varP_eq]
  rcases may_cases W (str [46]) (nameP W s).2 with e | ⟨e, _⟩
  · rw [e]; rfl
  · rw [e]; rfl
theorem run_single (W : Wds) (E : Pg b Ex) (s : PSt) : (gSingle E).run W s = singleP W (E.run W) s := by
  unfold gSingle singleP
  show (if s.bad then (.ret ex0 : Pg b Ex) else _).run W s = _
  cases hb : s.bad with
  | true => rfl
  | false =>
    show (if kndQ W true s then (Pg.num _ : Pg b Ex) else _).run W s = _
    have hmay : ∀ t, t ≠ clS → mayQ W t s = if isP W s t then (true, s.on) else (false, s) := fun t ht => by
      rw [mayQ_eq ht]
      unfold mayP
      rw [hb]
      rfl
    by_cases h1 : (W.look s.at_).kind = 1
    · have e : kndQ W true s = true := by simp [kndQ, h1]
      rw [e]
      show (Pg.ret _ : Pg b Ex).run W (numP W s).2 = _
      have en : numP W s = ((W.look s.at_).n, s.on) := by unfold numP; rw [hb, if_neg (by decide), if_pos h1]
      simp only [en, h1, if_true, Bool.false_eq_true, if_false]
      rfl
    · have e : kndQ W true s = false := by simp [kndQ, h1]
      rw [e]
      show (if kndQ W false s then (Pg.txt _ : Pg b Ex) else _).run W s = _
      by_cases h2 : (W.look s.at_).kind = 2
      · have e : kndQ W false s = true := by simp [kndQ, h2]
        rw [e]
        have en : txtP W s = ((W.look s.at_).text, s.on) := by unfold txtP; rw [hb, if_neg (by decide), if_pos h2]
        show ((.mk 2 0 (txtP W s).1 nil0 nil0 [] : Ex), (txtP W s).2) = _
        simp only [en, h2, if_true, Bool.false_eq_true, if_false]
        rfl
      · have e : kndQ W false s = false := by simp [kndQ, h2]
        rw [e]
        show (if (mayQ W _ s).1 then (.ret _ : Pg b Ex) else _).run W (mayQ W _ s).2 = _
        simp only [h1, h2, if_false, Bool.false_eq_true]
        rw [hmay _ (by decide)]
        cases ht : isP W s (str [116, 114, 117, 101]) with
        | true => rfl
        | false =>
          show (if (mayQ W _ s).1 then (.ret _ : Pg b Ex) else _).run W (mayQ W _ s).2 = _
          rw [hmay _ (by decide)]
          cases hf : isP W s (str [102, 97, 108, 115, 101]) with
          | true => rfl
          | false =>
            show (if isQ W _ s || isQ W _ s || isQ W _ s || isQ W _ s then gFold E else (.is _ _ : Pg b Ex)).run W s = _
            rw [isQ_eq (by decide), isQ_eq (by decide), isQ_eq (by decide), isQ_eq (by decide)]
            cases hq : (isP W s (str [99, 111, 117, 110, 116]) || isP W s (str [115, 117, 109]) || isP W s (str [109, 105, 110]) || isP W s (str [109, 97, 120])) with
            | true => exact run_fold W E s
            | false =>
              show (if isQ W _ s then gParen E else gVar).run W s = _
              rw [isQ_eq (by decide)]
              cases hp : isP W s (str [40]) with
              | true => exact run_paren W E s
              | false => exact run_var W s
theorem run_signed (W : Wds) (E : Pg b Ex) : ∀ k s, (gSigned E k).run W s = signedP W (E.run W) k s := by
  intro k
  induction k with
  | zero => exact fun s => rfl
  | succ k ih =>
    intro s
    show (if (mayQ W _ s).1 then (Pg.bind _ _ : Pg b Ex) else gSingle E).run W (entQ (mayQ W _ s)) = _
    rw [mayQ_eq (by decide)]
    unfold signedP
    rcases may_cases W (str [45]) s with e | ⟨e, _⟩
    · rw [e]; exact run_single W E s
    · rw [e]
      show (Pg.bind _ _).run W (enterP s.on) = _
      rw [run_bind, ih]
      rfl
theorem run_eq {p : Pg b Ex} {f : PSt → Ex × PSt} {W : Wds} (h : ∀ s, p.run W s = f s) : p.run W = f := funext h
theorem run_product (W : Wds) (E : Pg b Ex) (s : PSt) : (gProduct W.fuel E).run W s = productP W (E.run W) s := by
  unfold gProduct productP
  rw [run_chain1 W lvMul lv_mul, run_eq (run_signed W E W.fuel)]
theorem run_sum (W : Wds) (E : Pg b Ex) (s : PSt) : (gSum W.fuel E).run W s = sumP W (E.run W) s := by
  unfold gSum sumP
  rw [run_chain1 W lvSum lv_sum, run_eq (run_product W E)]
theorem run_cmp (W : Wds) (E : Pg b Ex) (s : PSt) : (gCmp W.fuel E).run W s = cmpP W (E.run W) s := by
  unfold gCmp cmpP
  rw [run_bind, run_sum, run_bind, run_op W lvCmp lv_cmp]
  simp only
  split
  · rfl
  · rw [run_bind, run_sum]
    rfl
theorem run_not (W : Wds) (E : Pg b Ex) : ∀ k s, (gNot W.fuel E k).run W s = notP W (E.run W) k s := by
  intro k
  induction k with
  | zero => exact fun s => rfl
  | succ k ih =>
    intro s
    show (if (mayQ W _ s).1 then (Pg.bind _ _ : Pg b Ex) else gCmp W.fuel E).run W (entQ (mayQ W _ s)) = _
    rw [mayQ_eq (by decide)]
    unfold notP
    rcases may_cases W (str [110, 111, 116]) s with e | ⟨e, _⟩
    · rw [e]; exact run_cmp W E s
    · rw [e]
      show (Pg.bind _ _).run W (enterP s.on) = _
      rw [run_bind, ih]
      rfl
theorem run_both (W : Wds) (E : Pg b Ex) (s : PSt) : (gBoth W.fuel E).run W s = bothP W (E.run W) s := by
  unfold gBoth bothP
  rw [run_chain1 W lvAnd lv_and, run_eq (run_not W E W.fuel)]
theorem run_expr (W : Wds) : ∀ f s, (gExpr W.fuel f : Pg b Ex).run W s = exprP W f s := by
  intro f
  induction f with
  | zero => exact fun s => rfl
  | succ f ih =>
    intro s
    unfold gExpr exprP
    rw [run_chain1 W lvOr lv_or, run_eq (run_both W (gExpr W.fuel f)), run_eq ih]
/- with more to go on with -/
theorem ref_ite {α : Type} {c : Prop} [Decidable c] {p q p' q' : Pg b α} (h : Ref p p') (k : Ref q q') : Ref (if c then p else q) (if c then p' else q') := by
  split
  · exact h
  · exact k
theorem ref_chain {l : List (ByteArray × Int)} {one one' : Pg b Ex} (h : Ref one one') : ∀ {n m : Nat}, n ≤ m → ∀ e, Ref (gChain l one n e) (gChain l one' m e) := by
  intro n
  induction n with
  | zero => exact fun _ e => .out _ _
  | succ n ih =>
    intro m hm e
    obtain ⟨m, rfl⟩ : ∃ k, m = k + 1 := ⟨m - 1, by omega⟩
    exact Ref.bind (Ref.refl _) fun _ => ref_ite (Ref.refl _) (Ref.bind h fun _ => ih (by omega) _)
theorem ref_chain1 {l : List (ByteArray × Int)} {one one' : Pg b Ex} (h : Ref one one') {n m : Nat} (hm : n ≤ m) : Ref (gChain1 n l one) (gChain1 m l one') := Ref.bind h fun e => ref_chain h hm e
section
variable {E E' : Pg b Ex} (h : Ref E E') {n m : Nat} (hm : n ≤ m)
include h
theorem ref_where : Ref (gWhere E) (gWhere E') := .may _ fun _ => ref_ite h (Ref.refl _)
theorem ref_fold : Ref (gFold E) (gFold E') := Ref.bind (Ref.refl _) fun _ => .mustE _ (Ref.bind (Ref.refl _) fun _ => Ref.bind (ref_where h) fun _ => ref_ite (Ref.refl _) (.must _ (Ref.bind h fun _ => Ref.refl _)))
theorem ref_paren : Ref (gParen E) (gParen E') := .mustE _ (Ref.bind h fun _ => Ref.refl _)
theorem ref_single : Ref (gSingle E) (gSingle E') := .bad fun _ => ref_ite (Ref.refl _) (.knd _ fun _ => ref_ite (Ref.refl _) (.knd _ fun _ => ref_ite (Ref.refl _) (.may _ fun _ => ref_ite (Ref.refl _) (.may _ fun _ => ref_ite (Ref.refl _) (.is _ fun _ => .is _ fun _ => .is _ fun _ => .is _ fun _ => ref_ite (ref_fold h) (.is _ fun _ => ref_ite (ref_paren h) (Ref.refl _)))))))
theorem ref_signed : ∀ {n m : Nat}, n ≤ m → Ref (gSigned E n) (gSigned E' m) := by
  intro n
  induction n with
  | zero => exact fun _ => .out _ _
  | succ n ih =>
    intro m hm
    obtain ⟨m, rfl⟩ : ∃ k, m = k + 1 := ⟨m - 1, by omega⟩
    exact .mayE _ fun _ => ref_ite (Ref.bind (ih (by omega)) fun _ => Ref.refl _) (ref_single h)
include hm
theorem ref_product : Ref (gProduct n E) (gProduct m E') := ref_chain1 (ref_signed h hm) hm
theorem ref_sum : Ref (gSum n E) (gSum m E') := ref_chain1 (ref_product h hm) hm
theorem ref_cmp : Ref (gCmp n E) (gCmp m E') := Ref.bind (ref_sum h hm) fun _ => Ref.bind (Ref.refl _) fun _ => ref_ite (Ref.refl _) (Ref.bind (ref_sum h hm) fun _ => Ref.refl _)
theorem ref_not : ∀ {i j : Nat}, i ≤ j → Ref (gNot n E i) (gNot m E' j) := by
  intro i
  induction i with
  | zero => exact fun _ => .out _ _
  | succ i ih =>
    intro j hj
    obtain ⟨j, rfl⟩ : ∃ k, j = k + 1 := ⟨j - 1, by omega⟩
    exact .mayE _ fun _ => ref_ite (Ref.bind (ih (by omega)) fun _ => Ref.refl _) (ref_cmp h hm)
theorem ref_both : Ref (gBoth n E) (gBoth m E') := ref_chain1 (ref_not h hm hm) hm
end
theorem ref_expr {n m : Nat} (hm : n ≤ m) : ∀ {i j : Nat}, i ≤ j → Ref (gExpr n i : Pg b Ex) (gExpr m j) := by
  intro i
  induction i with
  | zero => exact fun _ => .out _ _
  | succ i ih =>
    intro j hj
    obtain ⟨j, rfl⟩ : ∃ k, j = k + 1 := ⟨j - 1, by omega⟩
    exact ref_chain1 (ref_both (ih (by omega)) hm) hm
end Go.Proofs.YtlakeanldbdedaaGreat

namespace Go.Proofs.YtlakeanldbdedaaGreat
open Go.RowKit Go.Afx

variable {b : Bool}
theorem safe_ite {α : Type} {W : Wds} {s : PSt} {c : Prop} [Decidable c] {p q : Pg b α} (h : c → p.Safe W s) (k : ¬ c → q.Safe W s) : (if c then p else q).Safe W s := by
  split
  · rename_i hc; exact h hc
  · rename_i hc; exact k hc
theorem safe_op (W : Wds) : ∀ (l : List (ByteArray × Int)) s, (gOp l : Pg b Int).Safe W s := by
  intro l
  induction l with
  | nil => exact fun s => trivial
  | cons p l ih =>
    intro s
    obtain ⟨t, op⟩ := p
    exact safe_ite (fun _ => trivial) (fun _ => ih _)
theorem mayQ_cases (W : Wds) (t : ByteArray) (s : PSt) : mayQ W t s = (false, s) ∨ (mayQ W t s = (true, s.on) ∧ s.bad = false ∧ s.at_ < W.l.length) := by
  unfold mayQ
  split
  · exact .inl rfl
  · exact may_cases W t s
def SafeE (W : Wds) (p : Pg b Ex) (m : Nat) : Prop := ∀ s, Fit W m s → p.Safe W s
theorem safe_chain (W : Wds) (l : List (ByteArray × Int)) (hl : Lv l) (one : Pg b Ex) (m : Nat) (h1 : SafeE W one m) : ∀ k, 1 ≤ k → ∀ e s, Fit W k s → Fit W m s → (gChain l one k e).Safe W s := by
  intro k
  induction k with
  | zero => intro h; omega
  | succ k ih =>
    intro _ e s hk hm
    refine safe_bind W _ _ s (safe_op W l s) (safe_ite (fun _ => trivial) (fun h0 => ?_))
    rw [run_op W l hl] at h0 ⊢
    rcases opP_cases W s l with h | ⟨p, _, h, hb, hlt⟩
    · rw [h] at h0; exact absurd rfl h0
    · rw [h]
      have hk1 : W.l.length < s.at_ + (k + 1) := hk.elim (fun e => by rw [hb] at e; cases e) id
      refine safe_bind W _ _ _ (h1 _ (hm.ge (ge_on s))) (ih (by omega) _ _ ?_ ((hm.ge (ge_on s)).ge (run_ge W one _)))
      exact (Fit.on hk).ge (run_ge W one _)
theorem safe_chain1 (W : Wds) (l : List (ByteArray × Int)) (hl : Lv l) (one : Pg b Ex) (m : Nat) (h1 : SafeE W one m) : SafeE W (gChain1 W.fuel l one) m := fun s hm =>
  safe_bind W _ _ s (h1 s hm) (safe_chain W l hl one m h1 W.fuel (by unfold Wds.fuel; omega) _ _ (fit_all W _) (hm.ge (run_ge W one s)))
section
variable {W : Wds} {E : Pg b Ex}
theorem safe_where {s : PSt} (h : ∀ s', s.at_ ≤ s'.at_ → E.Safe W s') : (gWhere E).Safe W s :=
  safe_ite (fun _ => h _ (ge_mayQ W _ s).1) (fun _ => trivial)
theorem safe_foldOp (s : PSt) : (gFoldOp : Pg b Int).Safe W s := safe_ite (fun _ => trivial) (fun _ => safe_ite (fun _ => trivial) (fun _ => safe_ite (fun _ => trivial) (fun _ => trivial)))
theorem safe_fold {s : PSt} (h : ∀ s', (foldOp W s).2.at_ ≤ s'.at_ → E.Safe W s') : (gFold E).Safe W s := by
  refine safe_bind W _ _ s (safe_foldOp s) ?_
  rw [run_foldOp]
  show (Pg.bind _ _).Safe W (enterP (mustP W [str [40]] (foldOp W s).2))
  have h1 := ((ge_must W (str [40]) (foldOp W s).2).trans (ge_enter _)).1
  refine safe_bind W _ _ _ trivial ?_
  have h2 := (run_ge W (gRows : Pg b _) (enterP (mustP W [str [40]] (foldOp W s).2))).1
  refine safe_bind W _ _ _ (safe_where fun s' hs => h s' (by omega)) (safe_ite (fun _ => trivial) (fun _ => ?_))
  have h3 := (run_ge W (gWhere E) ((gRows : Pg b _).run W (enterP (mustP W [str [40]] (foldOp W s).2))).2).1
  exact safe_bind W _ _ _ (h _ (by have := (ge_must W (str [58]) ((gWhere E).run W ((gRows : Pg b _).run W (enterP (mustP W [str [40]] (foldOp W s).2))).2).2).1; omega)) trivial
theorem fit_from {m : Nat} {s s' : PSt} (h : Fit W (m + 1) s) (hb : s.bad = false) (hg : s.at_ + 1 ≤ s'.at_) : Fit W m s' := by
  rcases h with h | h
  · rw [hb] at h; cases h
  · exact .inr (by omega)
theorem safe_single {m : Nat} (hE : 1 ≤ m → SafeE W E m) : SafeE W (gSingle E) (m + 1) := fun s hf => by
  refine safe_ite (fun _ => trivial) (fun hb => ?_)
  have hb : s.bad = false := by simpa using hb
  have h1 : ∀ t, isP W s t = true → 1 ≤ m := fun t ht => by
    have hlt := says_in ht
    have : W.l.length < s.at_ + (m + 1) := hf.elim (fun e => by rw [hb] at e; cases e) id
    omega
  refine safe_ite (fun _ => trivial) (fun _ => safe_ite (fun _ => trivial) (fun _ => ?_))
  show (if (mayQ W _ s).1 then (Pg.ret _ : Pg b Ex) else _).Safe W (mayQ W _ s).2
  rcases mayQ_cases W (str [116, 114, 117, 101]) s with e | ⟨e, _⟩
  · rw [e]
    show (if (mayQ W _ s).1 then (Pg.ret _ : Pg b Ex) else _).Safe W (mayQ W _ s).2
    rcases mayQ_cases W (str [102, 97, 108, 115, 101]) s with e | ⟨e, _⟩
    · rw [e]
      show (if isQ W _ s || isQ W _ s || isQ W _ s || isQ W _ s then gFold E else (.is _ _ : Pg b Ex)).Safe W s
      rw [isQ_eq (by decide), isQ_eq (by decide), isQ_eq (by decide), isQ_eq (by decide)]
      refine safe_ite (fun hq => ?_) (fun _ => ?_)
      · have h2 := fold_more W s hq hb
        have h3 : 1 ≤ m := by
          simp only [Bool.or_eq_true] at hq
          rcases hq with ((hq | hq) | hq) | hq <;> exact h1 _ hq
        exact safe_fold fun s' hs => hE h3 s' (fit_from hf hb (by omega))
      · show (if isQ W _ s then gParen E else gVar).Safe W s
        rw [isQ_eq (by decide)]
        refine safe_ite (fun hq => ?_) (fun _ => ?_)
        · have h3 := h1 _ hq
          have h4 : (mustP W [str [40]] s).at_ = s.at_ + 1 := by
            have e : mayP W (str [40]) s = (true, s.on) := by unfold mayP; rw [hb, hq]; rfl
            show (if (mayP W (str [40]) s).1 then mustP W [] (mayP W (str [40]) s).2 else s.fail).at_ = _
            rw [e]
            rfl
          have h5 := (ge_enter (mustP W [str [40]] s)).1
          exact safe_bind W _ _ _ (hE h3 _ (fit_from hf hb (by omega))) trivial
        · exact safe_ite (fun _ => trivial) (fun _ => trivial)
    · rw [e]; exact trivial
  · rw [e]; exact trivial
theorem ent_on (s : PSt) : s.at_ + 1 ≤ (entQ (true, s.on)).at_ := (ge_enter s.on).1
theorem safe_signed {m : Nat} (hE : 1 ≤ m → SafeE W E m) : ∀ k, 1 ≤ k → ∀ s, Fit W k s → Fit W (m + 1) s → (gSigned E k).Safe W s := by
  intro k
  induction k with
  | zero => intro h; omega
  | succ k ih =>
    intro _ s hk hm
    show (if (mayQ W _ s).1 then (Pg.bind _ _ : Pg b Ex) else gSingle E).Safe W (entQ (mayQ W _ s))
    rcases mayQ_cases W (str [45]) s with e | ⟨e, hb, hlt⟩
    · rw [e]; exact safe_single hE s hm
    · rw [e]
      have hk1 : W.l.length < s.at_ + (k + 1) := hk.elim (fun e => by rw [hb] at e; cases e) id
      exact safe_bind W _ _ _ (ih (by omega) _ (fit_from hk hb (ent_on s)) (hm.ge ((ge_on s).trans (ge_enter _)))) trivial
theorem safe_product {m : Nat} (hE : 1 ≤ m → SafeE W E m) : SafeE W (gProduct W.fuel E) (m + 1) := safe_chain1 W lvMul lv_mul _ _ (fun s hm => safe_signed hE W.fuel (by unfold Wds.fuel; omega) s (fit_all W s) hm)
theorem safe_sum {m : Nat} (hE : 1 ≤ m → SafeE W E m) : SafeE W (gSum W.fuel E) (m + 1) := safe_chain1 W lvSum lv_sum _ _ (safe_product hE)
theorem safe_cmp {m : Nat} (hE : 1 ≤ m → SafeE W E m) : SafeE W (gCmp W.fuel E) (m + 1) := fun s hm =>
  safe_bind W _ _ s (safe_sum hE s hm) (safe_bind W _ _ _ (safe_op W lvCmp _) (safe_ite (fun _ => trivial) (fun _ => safe_bind W _ _ _ (safe_sum hE _ ((hm.ge (run_ge W _ s)).ge (run_ge W _ _))) trivial)))
theorem safe_not {m : Nat} (hE : 1 ≤ m → SafeE W E m) : ∀ k, 1 ≤ k → ∀ s, Fit W k s → Fit W (m + 1) s → (gNot W.fuel E k).Safe W s := by
  intro k
  induction k with
  | zero => intro h; omega
  | succ k ih =>
    intro _ s hk hm
    show (if (mayQ W _ s).1 then (Pg.bind _ _ : Pg b Ex) else gCmp W.fuel E).Safe W (entQ (mayQ W _ s))
    rcases mayQ_cases W (str [110, 111, 116]) s with e | ⟨e, hb, hlt⟩
    · rw [e]; exact safe_cmp hE s hm
    · rw [e]
      have hk1 : W.l.length < s.at_ + (k + 1) := hk.elim (fun e => by rw [hb] at e; cases e) id
      exact safe_bind W _ _ _ (ih (by omega) _ (fit_from hk hb (ent_on s)) (hm.ge ((ge_on s).trans (ge_enter _)))) trivial
theorem safe_both {m : Nat} (hE : 1 ≤ m → SafeE W E m) : SafeE W (gBoth W.fuel E) (m + 1) := safe_chain1 W lvAnd lv_and _ _ (fun s hm => safe_not hE W.fuel (by unfold Wds.fuel; omega) s (fit_all W s) hm)
end
theorem safe_expr (W : Wds) : ∀ f, 1 ≤ f → SafeE W (gExpr W.fuel f : Pg b Ex) f := by
  intro f
  induction f with
  | zero => intro h; omega
  | succ f ih => exact fun _ => safe_chain1 W lvOr lv_or _ _ (safe_both ih)
/-- any expression, with the fuel of more words -/
theorem expr1_run (W : Wds) {n : Nat} (hn : W.fuel ≤ n) (s : PSt) : expr1 W s = (gExpr n n : Pg b Ex).run W s := by
  show exprP W W.fuel s = _
  rw [← run_expr (b := b) W W.fuel s]
  exact Ref.run (ref_expr hn hn) (safe_expr W W.fuel (by unfold Wds.fuel; omega) s (fit_all W s))
theorem expr1_safe (W : Wds) (s : PSt) : (gExpr W.fuel W.fuel : Pg b Ex).Safe W s := safe_expr W W.fuel (by unfold Wds.fuel; omega) s (fit_all W s)
end Go.Proofs.YtlakeanldbdedaaGreat

namespace Go.Proofs.YtlakeanldbdedaaGreat
open Go.RowKit Go.Afx

variable {α : Type}
/-- W's words stand in W2 behind m others; then comes a closing parenthesis, or the end -/
structure Moved2 (W W2 : Wds) (m : Nat) : Prop where
  same : ∀ i, i < W.l.length → (W2.look (i + m)).kind = (W.look i).kind ∧ (W2.look (i + m)).text = (W.look i).text ∧ (W2.look (i + m)).n = (W.look i).n
  stop : (W2.look (W.l.length + m)).kind = 4 ∨ ((W2.look (W.l.length + m)).kind = 0 ∧ (W2.look (W.l.length + m)).text = clS)
structure Rel2 (W : Wds) (m : Nat) (s s2 : PSt) : Prop where
  at_ : s2.at_ = s.at_ + m
  deep : s2.deep = wrap64 (s.deep + m)
  over : s2.over = s.over
  bad : s2.bad = s.bad
  le : s.at_ ≤ W.l.length
theorem over_may (W : Wds) (t : ByteArray) (s : PSt) : (mayP W t s).2.over = s.over := by
  rcases may_cases W t s with e | ⟨e, _⟩ <;> rw [e] <;> rfl
theorem over_mayQ (W : Wds) (t : ByteArray) (s : PSt) : (mayQ W t s).2.over = s.over := by
  rcases mayQ_cases W t s with e | ⟨e, _⟩ <;> rw [e] <;> rfl
theorem must_cases (W : Wds) (t : ByteArray) (s : PSt) : (mustP W [t] s = s.on ∧ isP W s t = true ∧ s.bad = false ∧ s.at_ < W.l.length) ∨ mustP W [t] s = s.fail := by
  show ((if (mayP W t s).1 then mustP W [] (mayP W t s).2 else s.fail) = s.on ∧ _) ∨ (if (mayP W t s).1 then mustP W [] (mayP W t s).2 else s.fail) = s.fail
  rcases may_cases W t s with e | ⟨e, h1, h2⟩
  · right; rw [e]; rfl
  · left
    have h3 : isP W s t = true := by
      unfold mayP at e
      split at e
      · rename_i h; simp only [Bool.and_eq_true] at h; exact h.2
      · cases e
    rw [e]; exact ⟨rfl, h3, h1, h2⟩
theorem over_enter (s : PSt) (h : s.over = true) : (enterP s).over = true := by
  unfold enterP
  split
  · rfl
  · exact h
theorem over_entQ (p : Bool × PSt) (h : p.2.over = true) : (entQ p).over = true := by
  unfold entQ
  split
  · exact over_enter _ h
  · exact h
theorem over_must (W : Wds) (t : ByteArray) (s : PSt) : (mustP W [t] s).over = s.over := by
  rcases must_cases W t s with ⟨e, _⟩ | e <;> rw [e] <;> rfl
theorem over_name (W : Wds) (s : PSt) : (nameP W s).2.over = s.over := by unfold nameP; split <;> rfl
theorem over_num (W : Wds) (s : PSt) : (numP W s).2.over = s.over := by
  unfold numP
  repeat' split
  all_goals rfl
theorem over_txt (W : Wds) (s : PSt) : (txtP W s).2.over = s.over := by
  unfold txtP
  repeat' split
  all_goals rfl
theorem over_zero (W : Wds) (s : PSt) : (zeroQ W s).over = s.over := by unfold zeroQ; split <;> rfl
/-- what is too deep stays so -/
theorem run_over {b : Bool} (W : Wds) (p : Pg b α) : ∀ s, s.over = true → (p.run W s).2.over = true := by
  induction p with
  | ret a => exact fun s h => h
  | out k ih => exact ih
  | may t k ih => exact fun s h => ih _ _ (by rw [over_mayQ]; exact h)
  | mayE t k ih => exact fun s h => ih _ _ (over_entQ _ (by rw [over_mayQ]; exact h))
  | must t k ih => exact fun s h => ih _ (by rw [over_must]; exact h)
  | mustE t k ih => exact fun s h => ih _ (over_enter _ (by rw [over_must]; exact h))
  | leave k ih => exact fun s h => ih _ h
  | fail k ih => exact fun s h => ih _ h
  | name k ih => exact fun s h => ih _ _ (by rw [over_name]; exact h)
  | num k ih => exact fun s h => ih _ _ (by rw [over_num]; exact h)
  | txt k ih => exact fun s h => ih _ _ (by rw [over_txt]; exact h)
  | bad k ih => exact fun s h => ih _ _ h
  | knd n k ih => exact fun s h => ih _ _ h
  | is t k ih => exact fun s h => ih _ _ h
  | close h0 k ih => exact fun s h => ih _ _ h
  | zero k ih => exact fun s h => ih _ (by rw [over_zero]; exact h)
theorem run_bad {b : Bool} (W : Wds) (p : Pg b α) (s : PSt) (h : (p.run W s).2.bad = false) : s.bad = false := by
  cases hb : s.bad with
  | false => rfl
  | true => rw [(run_ge W p s).2 hb] at h; cases h
/-- it went wrong by too much that is open -/
def Esc (s : PSt) : Prop := s.over = true ∧ s.bad = true
theorem run_esc {b : Bool} (W : Wds) (p : Pg b α) {s : PSt} (h : Esc s) : Esc (p.run W s).2 := ⟨run_over W p s h.1, (run_ge W p s).2 h.2⟩
theorem wrap_add (a c : Int) : wrap64 (wrap64 a + c) = wrap64 (a + c) := by unfold wrap64; omega
section
variable {W W2 : Wds} {m : Nat} (hM : Moved2 W W2 m) {s s2 : PSt} (h : Rel2 W m s s2)
include hM h
theorem rel_says {t : ByteArray} (ht : t ≠ clS ∨ isP W s t = true) : isP W2 s2 t = isP W s t := by
  unfold isP
  rw [h.at_]
  rcases Nat.lt_or_ge s.at_ W.l.length with hlt | hge
  · obtain ⟨h1, h2, _⟩ := hM.same s.at_ hlt
    unfold Wd.says
    rw [h1, h2]
  · have e : s.at_ = W.l.length := by have := h.le; omega
    have hs : (W.look s.at_).says t = false := by rw [look_end hge]; simp [Wd.says]
    rw [hs]
    have ht : t ≠ clS := ht.elim id (fun h2 => by unfold isP at h2; rw [hs] at h2; cases h2)
    rw [e]
    unfold Wd.says
    rcases hM.stop with h1 | ⟨h1, h2⟩
    · rw [h1]; simp
    · rw [h1, h2]
      simp
      exact fun e => ht e.symm
theorem rel_look (n : Int) (hn : n ≠ 0 ∧ n ≠ 4) : ((W2.look s2.at_).kind = n ↔ (W.look s.at_).kind = n) ∧ ((W.look s.at_).kind = n → s.at_ < W.l.length ∧ (W2.look s2.at_).text = (W.look s.at_).text ∧ (W2.look s2.at_).n = (W.look s.at_).n) := by
  rw [h.at_]
  rcases Nat.lt_or_ge s.at_ W.l.length with hlt | hge
  · obtain ⟨h1, h2, h3⟩ := hM.same s.at_ hlt
    rw [h1]
    exact ⟨Iff.rfl, fun _ => ⟨hlt, h2, h3⟩⟩
  · have e : s.at_ = W.l.length := by have := h.le; omega
    have hk : (W.look s.at_).kind = 4 := by rw [look_end hge]
    rw [hk]
    refine ⟨⟨fun h1 => ?_, fun h1 => absurd h1.symm hn.2⟩, fun h1 => absurd h1.symm hn.2⟩
    rw [e] at h1
    rcases hM.stop with h2 | ⟨h2, _⟩
    · rw [h2] at h1; exact absurd h1.symm hn.2
    · rw [h2] at h1; exact absurd h1.symm hn.1
omit hM in
theorem rel_on (hlt : s.at_ < W.l.length) : Rel2 W m s.on s2.on := ⟨by show s2.at_ + 1 = s.at_ + 1 + m; rw [h.at_]; omega, h.deep, h.over, h.bad, hlt⟩
theorem rel_may (hb : s.bad = false) {t : ByteArray} (ht : t ≠ clS ∨ isP W s t = true) : (mayP W2 t s2).1 = (mayP W t s).1 ∧ Rel2 W m (mayP W t s).2 (mayP W2 t s2).2 := by
  have h1 := rel_says hM h ht
  unfold mayP
  rw [h.bad, hb, h1]
  cases hi : isP W s t with
  | false => exact ⟨rfl, h⟩
  | true => exact ⟨rfl, rel_on h (says_in hi)⟩
theorem rel_mayQ (hb : s.bad = false) (t : ByteArray) : (mayQ W2 t s2).1 = (mayQ W t s).1 ∧ Rel2 W m (mayQ W t s).2 (mayQ W2 t s2).2 := by
  unfold mayQ
  split
  · exact ⟨rfl, h⟩
  · rename_i ht; exact rel_may hM h hb (.inl ht)
omit hM in
theorem rel_enter (hb : (enterP s).bad = false) : Rel2 W m (enterP s) (enterP s2) ∨ Esc (enterP s2) := by
  have hs : s.bad = false := by
    cases hb2 : s.bad with
    | false => rfl
    | true => rw [(ge_enter s).2 hb2] at hb; cases hb
  have e1 : enterP s = upP s := by
    unfold enterP at hb ⊢
    split at hb
    · cases hb
    · rename_i h1; rw [if_neg h1]
  have hr : Rel2 W m (upP s) (upP s2) := ⟨h.at_, by show wrap64 (s2.deep + 1) = wrap64 (wrap64 (s.deep + 1) + m); rw [h.deep, wrap_add, wrap_add]; congr 1; omega, h.over, h.bad, h.le⟩
  rw [e1]
  unfold enterP
  split
  · exact .inr ⟨rfl, rfl⟩
  · exact .inl hr
theorem rel_must (t : ByteArray) (hb : (mustP W [t] s).bad = false) : Rel2 W m (mustP W [t] s) (mustP W2 [t] s2) := by
  rcases must_cases W t s with ⟨e, hi, hb2, hlt⟩ | e
  · have h1 := rel_may hM h hb2 (t := t) (.inr hi)
    have e3 : mayP W t s = (true, s.on) := by unfold mayP; rw [hb2, hi]; rfl
    rw [e3] at h1
    rw [e]
    show Rel2 W m s.on (if (mayP W2 t s2).1 then mustP W2 [] (mayP W2 t s2).2 else s2.fail)
    rw [h1.1, if_pos rfl]
    exact h1.2
  · rw [e] at hb; cases hb
theorem rel_name (hb : (nameP W s).2.bad = false) : (nameP W2 s2).1 = (nameP W s).1 ∧ Rel2 W m (nameP W s).2 (nameP W2 s2).2 := by
  obtain ⟨h1, h2⟩ := rel_look hM h 3 (by decide)
  unfold nameP at hb ⊢
  split at hb
  · cases hb
  · rename_i hc
    simp only [Bool.or_eq_true, Bool.not_eq_true', decide_eq_false_iff_not, not_or, Decidable.not_not, Bool.not_eq_true] at hc
    obtain ⟨⟨c1, c2⟩, c3⟩ := hc
    obtain ⟨hlt, ht, _⟩ := h2 c2
    have e1 : (s.bad || !decide ((W.look s.at_).kind = 3) || resB (W.look s.at_).text) = false := by rw [c1, c3]; simp [c2]
    have e2 : (s2.bad || !decide ((W2.look s2.at_).kind = 3) || resB (W2.look s2.at_).text) = false := by rw [h.bad, c1, ht, c3]; simp [h1.2 c2]
    rw [e1, e2]
    exact ⟨ht, rel_on h hlt⟩
theorem rel_num (hs : s.bad = false) (hb : (numP W s).2.bad = false) : (numP W2 s2).1 = (numP W s).1 ∧ Rel2 W m (numP W s).2 (numP W2 s2).2 := by
  obtain ⟨h1, h2⟩ := rel_look hM h 1 (by decide)
  unfold numP at hb ⊢
  rw [h.bad, hs]
  rw [hs] at hb
  simp only [Bool.false_eq_true, if_false] at hb ⊢
  split at hb
  · rename_i hc
    obtain ⟨hlt, _, hn⟩ := h2 hc
    rw [if_pos hc, if_pos (h1.2 hc)]
    exact ⟨hn, rel_on h hlt⟩
  · cases hb
theorem rel_txt (hs : s.bad = false) (hb : (txtP W s).2.bad = false) : (txtP W2 s2).1 = (txtP W s).1 ∧ Rel2 W m (txtP W s).2 (txtP W2 s2).2 := by
  obtain ⟨h1, h2⟩ := rel_look hM h 2 (by decide)
  unfold txtP at hb ⊢
  rw [h.bad, hs]
  rw [hs] at hb
  simp only [Bool.false_eq_true, if_false] at hb ⊢
  split at hb
  · rename_i hc
    obtain ⟨hlt, ht, _⟩ := h2 hc
    rw [if_pos hc, if_pos (h1.2 hc)]
    exact ⟨ht, rel_on h hlt⟩
  · cases hb
theorem rel_knd (n : Bool) : kndQ W2 n s2 = kndQ W n s := by
  unfold kndQ
  rw [Bool.eq_iff_iff, decide_eq_true_eq, decide_eq_true_eq]
  cases n
  · exact (rel_look hM h 2 (by decide)).1
  · exact (rel_look hM h 1 (by decide)).1
theorem rel_is (t : ByteArray) : isQ W2 t s2 = isQ W t s := by
  unfold isQ
  split
  · rfl
  · rename_i ht; exact rel_says hM h (.inl ht)
theorem rel_zero (hb : (zeroQ W s).bad = false) : Rel2 W m (zeroQ W s) (zeroQ W2 s2) := by
  obtain ⟨h1, h2⟩ := rel_look hM h 1 (by decide)
  unfold zeroQ at hb ⊢
  split at hb
  · cases hb
  · rename_i hc
    rw [if_neg hc, if_neg (fun h3 => hc ⟨h1.1 h3.1, by rw [← (h2 (h1.1 h3.1)).2.2]; exact h3.2⟩)]
    exact h
end
/-- the run over the words that were moved -/
theorem run_moved {W W2 : Wds} {m : Nat} (hM : Moved2 W W2 m) (p : Pg false α) : ∀ s s2, Rel2 W m s s2 → (p.run W s).2.bad = false → ((p.run W2 s2).1 = (p.run W s).1 ∧ Rel2 W m (p.run W s).2 (p.run W2 s2).2) ∨ Esc (p.run W2 s2).2 := by
  induction p with
  | ret a => exact fun s s2 h _ => .inl ⟨rfl, h⟩
  | out k ih => exact ih
  | may t k ih =>
    intro s s2 h hb
    have h1 := rel_mayQ hM h (run_bad W (.may t k) s hb) t
    show _ ∨ Esc ((k (mayQ W2 t s2).1).run W2 (mayQ W2 t s2).2).2
    rw [show ((Pg.may t k).run W2 s2) = (k (mayQ W2 t s2).1).run W2 (mayQ W2 t s2).2 from rfl, h1.1]
    exact ih _ _ _ h1.2 hb
  | mayE t k ih =>
    intro s s2 h hb
    have h1 := rel_mayQ hM h (run_bad W (.mayE t k) s hb) t
    have hb2 : (entQ (mayQ W t s)).bad = false := run_bad W _ _ hb
    rw [show ((Pg.mayE t k).run W2 s2) = (k (mayQ W2 t s2).1).run W2 (entQ (mayQ W2 t s2)) from rfl, h1.1]
    have h3 : Rel2 W m (entQ (mayQ W t s)) (entQ (mayQ W2 t s2)) ∨ Esc (entQ (mayQ W2 t s2)) := by
      unfold entQ at hb2 ⊢
      rw [h1.1]
      split at hb2
      · rename_i hc; rw [if_pos hc, if_pos hc]; exact rel_enter h1.2 hb2
      · rename_i hc; rw [if_neg hc, if_neg hc]; exact .inl h1.2
    rcases h3 with h3 | h3
    · exact ih _ _ _ h3 hb
    · exact .inr (run_esc W2 _ h3)
  | must t k ih => exact fun s s2 h hb => ih _ _ (rel_must hM h t (run_bad W k _ hb)) hb
  | mustE t k ih =>
    intro s s2 h hb
    have hb2 : (enterP (mustP W [t] s)).bad = false := run_bad W k _ hb
    have hb3 : (mustP W [t] s).bad = false := by
      cases hb4 : (mustP W [t] s).bad with
      | false => rfl
      | true => rw [(ge_enter _).2 hb4] at hb2; cases hb2
    rcases rel_enter (rel_must hM h t hb3) hb2 with h3 | h3
    · exact ih _ _ h3 hb
    · exact .inr (run_esc W2 k h3)
  | leave k ih =>
    intro s s2 h hb
    refine ih _ _ ⟨h.at_, ?_, h.over, h.bad, h.le⟩ hb
    show wrap64 (s2.deep - 1) = wrap64 (wrap64 (s.deep - 1) + m)
    rw [h.deep, wrap_add, show wrap64 (s.deep + m) - 1 = wrap64 (s.deep + m) + (-1) by omega, wrap_add]
    congr 1
    omega
  | fail k ih => exact fun s s2 h hb => by have := run_bad W k _ hb; cases this
  | name k ih =>
    intro s s2 h hb
    have h1 := rel_name hM h (run_bad W _ _ hb)
    rw [show ((Pg.name k).run W2 s2) = (k (nameP W2 s2).1).run W2 (nameP W2 s2).2 from rfl, h1.1]
    exact ih _ _ _ h1.2 hb
  | num k ih =>
    intro s s2 h hb
    have h1 := rel_num hM h (run_bad W (.num k) s hb) (run_bad W _ _ hb)
    rw [show ((Pg.num k).run W2 s2) = (k (numP W2 s2).1).run W2 (numP W2 s2).2 from rfl, h1.1]
    exact ih _ _ _ h1.2 hb
  | txt k ih =>
    intro s s2 h hb
    have h1 := rel_txt hM h (run_bad W (.txt k) s hb) (run_bad W _ _ hb)
    rw [show ((Pg.txt k).run W2 s2) = (k (txtP W2 s2).1).run W2 (txtP W2 s2).2 from rfl, h1.1]
    exact ih _ _ _ h1.2 hb
  | bad k ih =>
    intro s s2 h hb
    rw [show ((Pg.bad k).run W2 s2) = (k s2.bad).run W2 s2 from rfl, h.bad]
    exact ih _ _ _ h hb
  | knd n k ih =>
    intro s s2 h hb
    rw [show ((Pg.knd n k).run W2 s2) = (k (kndQ W2 n s2)).run W2 s2 from rfl, rel_knd hM h]
    exact ih _ _ _ h hb
  | is t k ih =>
    intro s s2 h hb
    rw [show ((Pg.is t k).run W2 s2) = (k (isQ W2 t s2)).run W2 s2 from rfl, rel_is hM h]
    exact ih _ _ _ h hb
  | close h0 k ih => cases h0
  | zero k ih => exact fun s s2 h hb => ih _ _ (rel_zero hM h (run_bad W k _ hb)) hb
end Go.Proofs.YtlakeanldbdedaaGreat

namespace Go.Proofs.YtlakeanldbdedaaGreat
open Go.RowKit Go.Afx

/-- no sign of a level stands there -/
def NoSign (W : Wds) (t : PSt) : Prop := t.bad = true ∨ (W.look t.at_).kind = 4 ∨ ((W.look t.at_).kind = 0 ∧ (W.look t.at_).text = clS)
theorem nosign_may {W : Wds} {t : PSt} (h : NoSign W t) {x : ByteArray} (hx : x ≠ clS) : mayP W x t = (false, t) := by
  unfold mayP
  rw [if_neg]
  intro hc
  simp only [Bool.and_eq_true, Bool.not_eq_true'] at hc
  unfold isP Wd.says at hc
  rcases h with h | h | ⟨h1, h2⟩
  · rw [h] at hc; cases hc.1
  · rw [h] at hc; simp at hc
  · rw [h1, h2] at hc
    simp at hc
    exact hx hc.2.symm
theorem nosign_op {W : Wds} {t : PSt} (h : NoSign W t) : ∀ l, Lv l → opP W l t = (0, t) := by
  intro l
  induction l with
  | nil => exact fun _ => rfl
  | cons p l ih =>
    intro hl
    obtain ⟨x, op⟩ := p
    show (if (mayP W x t).1 then (op, (mayP W x t).2) else opP W l t) = _
    rw [nosign_may h (hl (x, op) (by simp)).1]
    exact ih (fun q hq => hl q (by simp [hq]))
theorem chain_stop {W : Wds} {l : List (ByteArray × Int)} (hl : Lv l) {one : PSt → Ex × PSt} {s t : PSt} {e : Ex} (h1 : one s = (e, t)) (h : NoSign W t) : chain1 W l one s = (e, t) := by
  unfold chain1 Wds.fuel
  rw [h1]
  show (if (opP W l t).1 = 0 then (e, (opP W l t).2) else _) = _
  rw [nosign_op h l hl]
  rfl
/-- at an opening parenthesis -/
def Opens (W : Wds) (s : PSt) : Prop := s.bad = false ∧ (W.look s.at_).kind = 0 ∧ (W.look s.at_).text = str [40]
theorem opens_is {W : Wds} {s : PSt} (h : Opens W s) (x : ByteArray) : isP W s x = decide (x = str [40]) := by
  unfold isP Wd.says
  rw [h.2.1, h.2.2]
  rw [Bool.eq_iff_iff]
  simp
  exact eq_comm
theorem opens_may {W : Wds} {s : PSt} (h : Opens W s) {x : ByteArray} (hx : x ≠ str [40]) : mayP W x s = (false, s) := by
  unfold mayP
  rw [opens_is h, decide_eq_false hx]
  simp
theorem paren_expr {W : Wds} {f : Nat} {s t : PSt} {e : Ex} (h : Opens W s) (h1 : parenP W (exprP W f) s = (e, t)) (ht : NoSign W t) : exprP W (f + 1) s = (e, t) := by
  have hs : singleP W (exprP W f) s = (e, t) := by
    have hk1 : ¬ (W.look s.at_).kind = 1 := by rw [h.2.1]; decide
    have hk2 : ¬ (W.look s.at_).kind = 2 := by rw [h.2.1]; decide
    unfold singleP
    rw [h.1, if_neg (by decide), if_neg hk1, if_neg hk2]
    simp only [opens_is h]
    rw [if_neg (by decide), if_neg (by decide), if_neg (by decide), if_pos (by decide)]
    exact h1
  have hsg : signedP W (exprP W f) W.fuel s = (e, t) := by
    unfold Wds.fuel signedP
    rw [opens_may h (by decide)]
    exact hs
  have hpr : productP W (exprP W f) s = (e, t) := chain_stop lv_mul hsg ht
  have hsu : sumP W (exprP W f) s = (e, t) := chain_stop lv_sum hpr ht
  have hcm : cmpP W (exprP W f) s = (e, t) := by
    unfold cmpP
    rw [hsu]
    simp only
    rw [nosign_op ht lvCmp lv_cmp]
    rfl
  have hno : notP W (exprP W f) W.fuel s = (e, t) := by
    unfold Wds.fuel notP
    rw [opens_may h (by decide)]
    exact hcm
  have hbo : bothP W (exprP W f) s = (e, t) := chain_stop lv_and hno ht
  exact chain_stop lv_or hbo ht
/-- W's words within m pairs of parentheses -/
structure Wrap2 (W W2 : Wds) (m : Nat) : Prop where
  same : ∀ i, i < W.l.length → (W2.look (i + m)).kind = (W.look i).kind ∧ (W2.look (i + m)).text = (W.look i).text ∧ (W2.look (i + m)).n = (W.look i).n
  open_ : ∀ i, i < m → (W2.look i).kind = 0 ∧ (W2.look i).text = str [40]
  close_ : ∀ j, j < m → (W2.look (W.l.length + m + j)).kind = 0 ∧ (W2.look (W.l.length + m + j)).text = clS
  len : W2.l.length = W.l.length + m + m
theorem Wrap2.moved {W W2 : Wds} {m : Nat} (h : Wrap2 W W2 m) : Moved2 W W2 m := ⟨h.same, by
  rcases Nat.eq_zero_or_pos m with h0 | h0
  · left; subst h0; rw [look_end (by rw [h.len]; omega)]
  · right; exact h.close_ 0 h0⟩
theorem self_moved (W : Wds) : Moved2 W W 0 := ⟨fun i _ => ⟨rfl, rfl, rfl⟩, .inl (by rw [look_end (by omega)])⟩
theorem start_rel (W : Wds) (m : Nat) (hm : m ≤ 60) : Rel2 W m PSt.start ⟨m, m, false, false⟩ := ⟨by show m = 0 + m; omega, by show (m : Int) = wrap64 (0 + m); unfold wrap64; omega, rfl, rfl, Nat.zero_le _⟩
/-- what is taken within the parentheses -/
theorem wrapped {W W2 : Wds} {m : Nat} (h : Wrap2 W W2 m) (hm : m ≤ 60) (hb : (expr1 W PSt.start).2.bad = false) (ho : (expr1 W PSt.start).2.over = false) (ha : (expr1 W PSt.start).2.at_ = W.l.length) : ∀ i, i ≤ m → ∀ f, f + i = W2.fuel →
    Esc (exprP W2 f ⟨i, i, false, false⟩).2 ∨ ((exprP W2 f ⟨i, i, false, false⟩).1 = (expr1 W PSt.start).1 ∧ (exprP W2 f ⟨i, i, false, false⟩).2.bad = false ∧ (exprP W2 f ⟨i, i, false, false⟩).2.over = false ∧ (exprP W2 f ⟨i, i, false, false⟩).2.at_ + i = W.l.length + m + m) := by
  intro i hi
  obtain ⟨k, hk⟩ : ∃ k, i + k = m := ⟨m - i, by omega⟩
  induction k generalizing i with
  | zero =>
    intro f hf
    obtain rfl : i = m := by omega
    have hfl : W2.fuel = W.l.length + i + i + 1 := by unfold Wds.fuel; have := h.len; omega
    have hs : (gExpr W2.fuel f : Pg false Ex).Safe W2 ⟨i, i, false, false⟩ := safe_expr W2 f (by omega) _ (.inr (by show W2.l.length < i + f; have := h.len; omega))
    have e2 : exprP W2 f ⟨i, i, false, false⟩ = (gExpr W2.fuel W2.fuel : Pg false Ex).run W2 ⟨i, i, false, false⟩ := by
      rw [← run_expr (b := false) W2 f]
      exact Ref.run (ref_expr (Nat.le_refl _) (by omega)) hs
    have e1 : expr1 W PSt.start = (gExpr W2.fuel W2.fuel : Pg false Ex).run W PSt.start := expr1_run W (by unfold Wds.fuel; have := h.len; omega) _
    rw [e1] at hb ho ha
    rw [e2, e1]
    rcases run_moved h.moved (gExpr W2.fuel W2.fuel : Pg false Ex) PSt.start ⟨i, i, false, false⟩ (start_rel W i (by omega)) hb with ⟨h1, h2⟩ | h1
    · refine .inr ⟨h1, ?_, ?_, ?_⟩
      · rw [h2.bad]; exact hb
      · rw [h2.over]; exact ho
      · rw [h2.at_, ha]
    · exact .inl h1
  | succ k ih =>
    intro f hf
    obtain ⟨f, rfl⟩ : ∃ g, f = g + 1 := ⟨f - 1, by unfold Wds.fuel at hf; have := h.len; omega⟩
    have ho1 := h.open_ i (by omega)
    have hop : Opens W2 ⟨i, i, false, false⟩ := ⟨rfl, ho1.1, ho1.2⟩
    have hih := ih (i + 1) (by omega) (by omega) f (by omega)
    have hmu : mustP W2 [str [40]] ⟨i, i, false, false⟩ = ⟨i + 1, i, false, false⟩ := by
      have e : mayP W2 (str [40]) ⟨i, i, false, false⟩ = (true, ⟨i + 1, i, false, false⟩) := by unfold mayP; rw [opens_is hop]; rfl
      show (if (mayP W2 (str [40]) ⟨i, i, false, false⟩).1 then mustP W2 [] (mayP W2 (str [40]) ⟨i, i, false, false⟩).2 else PSt.fail ⟨i, i, false, false⟩) = _
      rw [e]
      rfl
    have hen : enterP ⟨i + 1, i, false, false⟩ = ⟨i + 1, (i + 1 : Nat), false, false⟩ := by
      have e : wrap64 ((i : Int) + 1) = ((i + 1 : Nat) : Int) := by unfold wrap64; omega
      unfold enterP upP
      simp only [e]
      rw [if_neg]
      simp
      omega
    have hpa : parenP W2 (exprP W2 f) ⟨i, i, false, false⟩ = ((exprP W2 f ⟨i + 1, (i + 1 : Nat), false, false⟩).1, leaveP (mustP W2 [str [41]] (exprP W2 f ⟨i + 1, (i + 1 : Nat), false, false⟩).2)) := by
      rw [parenP_eq, hmu, hen]
    generalize exprP W2 f ⟨i + 1, (i + 1 : Nat), false, false⟩ = r at *
    rcases hih with hE | ⟨hx, hb2, ho2, ha2⟩
    · have hmf : mustP W2 [str [41]] r.2 = r.2.fail := by
        rcases must_cases W2 (str [41]) r.2 with ⟨_, _, e, _⟩ | e
        · rw [hE.2] at e; cases e
        · exact e
      rw [hmf] at hpa
      rw [paren_expr hop hpa (.inl rfl)]
      exact .inl ⟨hE.1, rfl⟩
    · have hc := h.close_ k (by omega)
      have hc2 : (W2.look r.2.at_).kind = 0 ∧ (W2.look r.2.at_).text = clS := by
        have e : r.2.at_ = W.l.length + m + k := by omega
        rw [e]; exact hc
      have hmf : mustP W2 [str [41]] r.2 = r.2.on := by
        have e : mayP W2 (str [41]) r.2 = (true, r.2.on) := by unfold mayP isP Wd.says; rw [hb2, hc2.1, hc2.2]; rfl
        show (if (mayP W2 (str [41]) r.2).1 then mustP W2 [] (mayP W2 (str [41]) r.2).2 else r.2.fail) = _
        rw [e]
        rfl
      rw [hmf] at hpa
      have hns : NoSign W2 (leaveP r.2.on) := by
        right
        show (W2.look (r.2.at_ + 1)).kind = 4 ∨ _
        have e : r.2.at_ + 1 = W.l.length + m + (k + 1) := by omega
        rcases Nat.eq_zero_or_pos i with h0 | h0
        · left; rw [e, look_end (by rw [h.len]; omega)]
        · right
          show (W2.look (r.2.at_ + 1)).kind = 0 ∧ (W2.look (r.2.at_ + 1)).text = clS
          rw [e]; exact h.close_ (k + 1) (by omega)
      rw [paren_expr hop hpa hns]
      exact .inr ⟨hx, hb2, ho2, by show r.2.at_ + 1 + i = _; omega⟩
end Go.Proofs.YtlakeanldbdedaaGreat

namespace Go.Proofs.YtlakeanldbdedaaGreat
open Go.RowKit Go.Afx

def rgtE (d : Nat) (e : Ex) : Bool := smallZ (sizeE d 0 e) && builtE d e
theorem ret_bb {a b : Bool} (h : a = b) : Ending.returned (.bool a) = .returned (.bool b) := by rw [h]
set_option maxHeartbeats 1000000 in
theorem rgtE_any (F : Nat → Prop) (d : Nat) (e : Ex) (row : List Value) (w : World) (h : ExAt F d w row e) (hd : d ≤ 10000) :
    Calls Tryz.prog 29 #[.agg row.toArray] w fun x w' => x = .returned (.bool (rgtE d e)) ∧ Below w.heap.size w w' := by
  have hq : rgtE d e = (smallZ (sizeE d 0 e) && builtE d e) := rfl
  obtain ⟨A, m, c, hrow⟩ := ex_row6 h
  obtain ⟨w1, Hw1⟩ : ∃ w1, Hid (w1 = w.alloc (.cells row.toArray 41)) := ⟨_, rfl⟩
  have hb1 : Below w.heap.size w w1 := by rw [Hw1.out]; exact (Below.refl _ _).alloc (Nat.le_refl _) _
  have hk1 : IsBlk w1 w.heap.size 41 row.toArray := by rw [Hw1.out]; exact IsBlk.laid _ _ _
  have Hx := Lib.hid (fun W (hW : Below w1.heap.size w1 W) => (show IsBlk W w.heap.size 41 row.toArray from hk1.as_was (hW.block _ hk1.lt)))
  have Hs := Lib.hid (sizeE_any F d e row 0 w1 (h.below hb1) (by omega) (by omega))
  have Hb := Lib.hid (fun W (hW : Below w.heap.size w W) => builtE_any F d e row W (h.below hW))
  have Hb1 := Lib.hid hb1
  subst hrow
  generalize sizeE d 0 e = s at *
  generalize builtE d e = qb at *
  generalize rgtE d e = fin at *
  have Hfin := Lib.hid hq
  obtain ⟨s1, s2⟩ := s
  clear hq h hb1 hk1
  go_enter Tryz.func29, Tryz.ntmps29
  go_upto_region 1 with (fail)
  rw [← Hw1.out]
  obtain ⟨x0, x1, x2, x3, x4, x5, xl⟩ := cells6 (Hx.out _ (Below.refl _ _))
  go_upto_region 2 with (go_at_call 52; refine Hs.out.mono ?_; rintro x w2 ⟨rfl, hb2⟩)
  have hk : IsBlk (w2.alloc (.cells #[.int .i64 s1, .int .i64 s2] 54)) w2.heap.size 54 #[.int .i64 s1, .int .i64 s2] := IsBlk.laid _ _ _
  have hb3 : Below w1.heap.size w1 (w2.alloc (.cells #[.int .i64 s1, .int .i64 s2] 54)) := hb2.alloc hb2.size _
  generalize w2.alloc (.cells #[.int .i64 s1, .int .i64 s2] 54) = w3 at *
  have Hs3 := Lib.hid (small_any _ s1 s2 w3 hk)
  have hbb := Hb1.out.trans (hb3.mono Hb1.out.size)
  have Hb3 := Lib.hid (And.intro (Hb.out _ hbb) hbb)
  clear x0 x1 x2 x3 x4 x5 xl
  obtain ⟨x0, x1, x2, x3, x4, x5, xl⟩ := cells6 (Hx.out _ hb3)
  have hkl := hk.lt
  clear hk hb2 hb3 hbb
  generalize smallZ (s1, s2) = qs at *
  cases qs
  · go_wp2_with (go_at_call 21; refine Hs3.out.mono ?_; rintro x w' ⟨rfl, rfl⟩)
    go_ret
    exact ⟨ret_bb (by rw [Hfin.out]; simp), Hb3.out.2⟩
  · go_wp2_with (first | (go_at_call 21; refine Hs3.out.mono ?_; rintro x w' ⟨rfl, rfl⟩) | (go_at_call 70; refine Hb3.out.1.mono ?_; rintro x w4 ⟨rfl, hb4⟩))
    go_ret
    exact ⟨ret_bb (by rw [Hfin.out]; simp), Hb3.out.2.trans (hb4.mono Hb3.out.2.size)⟩
end Go.Proofs.YtlakeanldbdedaaGreat
