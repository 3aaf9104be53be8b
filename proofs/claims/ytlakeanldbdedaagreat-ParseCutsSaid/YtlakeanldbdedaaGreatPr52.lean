/- Parts of this proof, one behind the other: LxC, PgD, PgE, PgQ, LwC. -/
import Derived.Test.YtlakeanldbdedaaGreatPr47
import Derived.Test.YtlakeanldbdedaaGreatPr50
import Derived.Test.YtlakeanldbdedaaGreatPr38
import Derived.Test.YtlakeanldbdedaaGreatPr49
namespace Go.Proofs.YtlakeanldbdedaaGreat
open Go.RowKit Go.Afx

theorem blk_take : ∀ (s : List UInt8) (st : Bool) (k : Nat), blk st s ≤ k → blk st s < s.length → blk st (s.take k) = blk st s := by
  intro s
  induction s with
  | nil => intro st k _ h; simp at h
  | cons c s ih =>
    intro st k h1 h2
    cases k with
    | zero =>
      have h0 : blk st (c :: s) = 0 := by omega
      rw [h0, List.take_zero]
      cases st <;> rfl
    | succ k =>
      rw [List.take_succ_cons]
      cases st with
      | true =>
        simp only [blk, List.length_cons] at h1 h2 ⊢
        split at h1
        · rename_i hc; rw [if_pos hc] at h2; rw [if_pos hc, if_pos hc, ih false k (by omega) (by omega)]
        · rename_i hc; rw [if_neg hc] at h2; rw [if_neg hc, if_neg hc, ih true k (by omega) (by omega)]
      | false =>
        simp only [blk, List.length_cons] at h1 h2 ⊢
        by_cases hc : wsB c = true
        · rw [if_pos hc] at h1 h2
          rw [if_pos hc, if_pos hc, ih false k (by omega) (by omega)]
        · rw [if_neg hc] at h1 h2
          rw [if_neg hc, if_neg hc]
          by_cases hd : c.toNat = 47 ∧ s.head? = some 47
          · rw [if_pos hd] at h1 h2
            have hb : 1 ≤ blk true s := by
              cases s with
              | nil => simp at hd
              | cons d s =>
                have e : d = 47 := by simpa using hd.2
                subst e
                simp [blk]
            have hh : (s.take k).head? = some 47 := by
              cases k with
              | zero => omega
              | succ k => cases s with
                | nil => simp at hd
                | cons d s => simpa using hd.2
            rw [if_pos ⟨hd.1, hh⟩, if_pos hd, ih true k (by omega) (by omega)]
          · rw [if_neg hd, if_neg]
            rintro ⟨h3, h4⟩
            apply hd
            refine ⟨h3, ?_⟩
            cases s with
            | nil => simp at h4
            | cons d s => cases k with
              | zero => simp at h4
              | succ k => simpa using h4
theorem takeW_take (s : List UInt8) : ∀ k, (s.takeWhile lexB).length ≤ k → (s.take k).takeWhile lexB = s.takeWhile lexB := by
  induction s with
  | nil => intro k _; simp
  | cons c s ih =>
    intro k h
    cases hc : lexB c with
    | false =>
      cases k with
      | zero => simp [hc]
      | succ k => simp [hc]
    | true =>
      rw [List.takeWhile_cons, if_pos hc] at h ⊢
      simp only [List.length_cons] at h
      cases k with
      | zero => omega
      | succ k => rw [List.take_succ_cons, List.takeWhile_cons, if_pos hc, ih k (by omega)]
theorem quo_take : ∀ (n : Nat) (s acc : List UInt8) (i : Nat) (r : List UInt8 × Nat) (k : Nat), s.length ≤ n → quo s acc i = some r → r.2 ≤ i + k → quo (s.take k) acc i = some r := by
  intro n
  induction n with
  | zero =>
    intro s acc i r k hn h
    obtain rfl : s = [] := List.eq_nil_of_length_eq_zero (by omega)
    simp [quo] at h
  | succ n ih =>
    intro s acc i r k hn h hk
    cases s with
    | nil => simp [quo] at h
    | cons d s =>
      simp only [List.length_cons] at hn
      have hlen := quo_len _ _ _ _ r.1 r.2 (Nat.le_refl _) h
      obtain ⟨k, rfl⟩ : ∃ j, k = j + 1 := ⟨k - 1, by omega⟩
      obtain ⟨q1, q2, q3⟩ := quo_at (c := d) (r := s) (acc := acc) (i := i)
      obtain ⟨p1, p2, p3⟩ := quo_at (c := d) (r := s.take k) (acc := acc) (i := i)
      rw [List.take_succ_cons]
      by_cases e10 : d.toNat = 10
      · rw [q1 e10] at h; cases h
      · by_cases e39 : d.toNat = 39
        · obtain ⟨q4, q5⟩ := q3 e39
          obtain ⟨p4, p5⟩ := p3 e39
          by_cases e2 : s.head? = some 39
          · rw [q4 e2] at h
            have hl2 := quo_len _ _ _ _ r.1 r.2 (Nat.le_refl _) h
            obtain ⟨k, rfl⟩ : ∃ j, k = j + 1 := ⟨k - 1, by omega⟩
            cases s with
            | nil => simp at e2
            | cons d2 s2 =>
              rw [p4 (by simpa using e2)]
              simp only [List.take_succ_cons, List.drop_succ_cons, List.drop_zero] at h ⊢
              simp only [List.length_cons] at hn
              exact ih _ _ _ _ _ (by omega) h (by omega)
          · rw [q5 e2] at h
            rw [p5]
            · exact h
            · intro e3
              apply e2
              cases s with
              | nil => simp at e3
              | cons d2 s2 => cases k with
                | zero => simp at e3
                | succ k => simpa using e3
        · rw [q2 e10 e39] at h
          rw [p2 e10 e39]
          exact ih _ _ _ _ _ (by omega) h (by omega)
theorem pre_take {g s : List UInt8} {k : Nat} (h : g.isPrefixOf (s.take k) = true) : g.isPrefixOf s = true := by
  rw [List.isPrefixOf_iff_prefix] at h ⊢
  exact h.trans (List.take_prefix k s)
theorem sign_take {s : List UInt8} {x : Nx} {k : Nat} (h : signX s = some x) (hk : x.len ≤ k) : signX (s.take k) = some x := by
  unfold signX at h ⊢
  have key : ∀ l : List (List UInt8), (l.find? fun g => g.isPrefixOf s).map (fun g => (⟨0, g, 0, g.length⟩ : Nx)) = some x → (l.find? fun g => g.isPrefixOf (s.take k)).map (fun g => (⟨0, g, 0, g.length⟩ : Nx)) = some x := by
    intro l
    induction l with
    | nil => intro h; cases h
    | cons g l ih =>
      intro h
      rw [List.find?_cons] at h ⊢
      cases hg : g.isPrefixOf s with
      | true =>
        rw [hg] at h
        have e : x = ⟨0, g, 0, g.length⟩ := by simpa using h.symm
        have hg2 : g.isPrefixOf (s.take k) = true := by
          rw [List.isPrefixOf_iff_prefix] at hg ⊢
          rw [e] at hk
          have hk : g.length ≤ k := hk
          obtain ⟨t, rfl⟩ := hg
          exact ⟨t.take (k - g.length), by rw [List.take_append, List.take_of_length_le hk]⟩
        rw [hg2]
        exact h
      | false =>
        rw [hg] at h
        have hg2 : g.isPrefixOf (s.take k) = false := by
          cases h2 : g.isPrefixOf (s.take k) with
          | false => rfl
          | true => rw [pre_take h2] at hg; cases hg
        rw [hg2]
        exact ih h
  exact key signsL h
theorem nextX_at (a : UInt8) (r : List UInt8) : nextX (a :: r) = if lexB a then plainX (a :: r) else if a.toNat = 39 then quotedX (a :: r) else signX (a :: r) := by simp [nextX]
theorem next_take {s : List UInt8} {x : Nx} {k : Nat} (h : nextX s = some x) (hk : x.len ≤ k) : nextX (s.take k) = some x := by
  obtain ⟨l1, l2⟩ := next_len h
  obtain ⟨a, r, rfl⟩ : ∃ a r, s = a :: r := by
    cases s with
    | nil => simp at l2; omega
    | cons a r => exact ⟨a, r, rfl⟩
  obtain ⟨k, rfl⟩ : ∃ j, k = j + 1 := ⟨k - 1, by omega⟩
  rw [nextX_at] at h
  rw [List.take_succ_cons, nextX_at]
  cases h1 : lexB a with
  | true =>
    rw [h1, if_pos rfl] at h
    rw [if_pos rfl]
    have hlen : ((a :: r).takeWhile lexB).length ≤ k + 1 := by
      unfold plainX at h
      split at h
      · cases hn : parseN ((a :: r).takeWhile lexB) with
        | none => rw [hn] at h; cases h
        | some v => rw [hn] at h; cases h; exact hk
      · split at h
        · cases h; exact hk
        · cases h
    have e := takeW_take (a :: r) (k + 1) hlen
    rw [List.take_succ_cons] at e
    unfold plainX at h ⊢
    rw [e]
    exact h
  | false =>
    rw [h1, if_neg (by decide)] at h
    rw [if_neg (by decide)]
    by_cases h2 : a.toNat = 39
    · rw [if_pos h2] at h ⊢
      unfold quotedX at h ⊢
      simp only [List.drop_succ_cons, List.drop_zero] at h ⊢
      cases hq : quo r [] 1 with
      | none => rw [hq] at h; cases h
      | some q =>
        rw [hq] at h
        have hk2 : q.2 ≤ 1 + k := by
          simp only at h
          split at h
          · cases h; simp only at hk; omega
          · cases h
        rw [quo_take _ _ _ _ _ k (Nat.le_refl _) hq hk2]
        exact h
    · rw [if_neg h2] at h ⊢
      have h3 := sign_take (k := k + 1) h hk
      rw [List.take_succ_cons] at h3
      exact h3
/-- the first words of a text that is cut off at a word -/
theorem lexH_cut (L : List UInt8) : ∀ (f a : Nat) (ws : List Wd), a ≤ L.length → lexH f a (L.drop a) = .inr ws → ∀ j, j < ws.length → ∀ c : Nat, (∀ x, ws[j]? = some x → x.at_ = c) → a ≤ c ∧ c < L.length ∧ ∀ f', c - a < f' → lexH f' a ((L.take c).drop a) = .inr (ws.take j) := by
  intro f
  induction f with
  | zero => intro a ws _ h; cases h
  | succ f ih =>
    intro a ws ha h j hj c hc
    rcases Nat.lt_or_ge a L.length with hlt | hge
    · have hd : L.drop a = L[a] :: L.drop (a + 1) := List.drop_eq_getElem_cons hlt
      rw [lexH_go _ _ _ (by rw [hd]; exact List.cons_ne_nil _ _)] at h
      cases hn : nextX (L.drop a) with
      | none => rw [hn] at h; cases h
      | some x =>
        rw [hn] at h
        simp only at h
        obtain ⟨l1, l2⟩ := next_len hn
        rw [List.length_drop] at l2
        rw [List.drop_drop] at h
        have hb := blk_le (L.drop (a + x.len)) false
        rw [List.length_drop] at hb
        rw [List.drop_drop] at h
        cases hr : lexH f (a + x.len + blk false (L.drop (a + x.len))) (L.drop (a + x.len + blk false (L.drop (a + x.len)))) with
        | inl e => rw [hr] at h; cases h
        | inr l =>
          rw [hr] at h
          have h : (Sum.inr (⟨x.kind, str x.text, x.n, a⟩ :: l) : Nat ⊕ List Wd) = .inr ws := h
          cases h
          cases j with
          | zero =>
            have e : (a : Int) = c := hc _ rfl
            have e : a = c := by omega
            subst e
            refine ⟨Nat.le_refl _, hlt, fun f' hf' => ?_⟩
            obtain ⟨f', rfl⟩ : ∃ g, f' = g + 1 := ⟨f' - 1, by omega⟩
            rw [List.drop_eq_nil_of_le (by rw [List.length_take]; omega)]
            rfl
          | succ j =>
            obtain ⟨h1, h2, h3⟩ := ih _ l (by omega) hr j (by simpa using hj) c (fun y hy => hc y (by simpa using hy))
            refine ⟨by omega, h2, fun f' hf' => ?_⟩
            obtain ⟨f', rfl⟩ : ∃ g, f' = g + 1 := ⟨f' - 1, by omega⟩
            have hdr : ∀ q, (L.take c).drop q = (L.drop q).take (c - q) := fun q => by rw [List.drop_take]
            have hn2 : nextX ((L.take c).drop a) = some x := by rw [hdr]; exact next_take hn (by omega)
            have hne : (L.take c).drop a ≠ [] := by
              intro e
              have := congrArg List.length e
              simp at this
              omega
            have hbk : blk false ((L.take c).drop (a + x.len)) = blk false (L.drop (a + x.len)) := by
              rw [hdr]
              exact blk_take _ false _ (by omega) (by rw [List.length_drop]; omega)
            rw [lexH_go _ _ _ hne, hn2]
            simp only
            rw [List.drop_drop, hbk, List.drop_drop, h3 f' (by omega)]
            rfl
    · rw [List.drop_eq_nil_of_le hge] at h
      have h : (Sum.inr [] : Nat ⊕ List Wd) = .inr ws := h
      cases h
      simp at hj
theorem lexL_cut {L : List UInt8} {ws : List Wd} (h : lexL L = .inr ws) {j : Nat} (hj : j < ws.length) {c : Nat} (hc : ∀ x, ws[j]? = some x → x.at_ = c) : c < L.length ∧ lexL (L.take c) = .inr (ws.take j) := by
  have hb := blk_le L false
  obtain ⟨h1, h2, h3⟩ := lexH_cut L _ _ ws hb h j hj c hc
  refine ⟨h2, ?_⟩
  have hlt : blk false L < L.length := by omega
  have hbk : blk false (L.take c) = blk false L := blk_take L false c h1 hlt
  unfold lexL
  rw [hbk]
  exact h3 _ (by rw [List.length_take]; omega)
end Go.Proofs.YtlakeanldbdedaaGreat

namespace Go.Proofs.YtlakeanldbdedaaGreat
open Go.RowKit Go.Afx

variable {b : Bool} {α : Type}
def gList (one : Pg b α) : Nat → List α → Pg b (List α)
  | 0, l => .out (.ret l)
  | f + 1, l => .may (str [44]) fun x => if x then one.bind fun a => gList one f (l ++ [a]) else .ret l
def gList1 (n : Nat) (one : Pg b α) : Pg b (List α) := one.bind fun a => gList one n [a]
def gExprs (n : Nat) : Pg b (List Ex) := gList1 n (gExpr n n)
def gAssign (n : Nat) (op : Int) : Pg b St := .name fun a => .must (str [61]) ((gExpr n n).bind fun e => .ret (.mk op a nil0 0 [] [e] [] []))
def gInto (n : Nat) (op : Int) : Pg b St := .name fun a => .mustE (str [40]) ((gExprs n).bind fun l => .must (str [41]) (.leave (.ret (.mk op nil0 a 0 [] l [] []))))
def gSet (n : Nat) : Pg b (ByteArray × Ex) := .name fun a => .must (str [61]) ((gExpr n n).bind fun e => .ret (a, e))
def gChange (n : Nat) : Pg b St := gRows.bind fun r => (gWhere (gExpr n n)).bind fun a => .must (str [115, 101, 116]) ((gList1 n (gSet n)).bind fun l => .ret (.mk 4 r.1 r.2 0 (l.map (·.1)) (a :: l.map (·.2)) [] []))
def gDel (n : Nat) : Pg b St := gRows.bind fun r => (gWhere (gExpr n n)).bind fun a => .ret (.mk 5 r.1 r.2 0 [] [a] [] [])
def gAbort (n : Nat) : Pg b St := (gExpr n n).bind fun e => .ret (.mk 9 nil0 nil0 0 [] [e] [] [])
def gReply (n : Nat) : Pg b St := (gExprs n).bind fun l => .ret (.mk 10 nil0 nil0 0 [] l [] [])
def gPlain (n : Nat) : Pg b St := .may (str [108, 101, 116]) fun x => if x then gAssign n 1 else .may (str [115, 101, 116]) fun x => if x then gAssign n 2 else .may (str [105, 110, 115, 101, 114, 116]) fun x => if x then gInto n 3
  else .may (str [101, 109, 105, 116]) fun x => if x then gInto n 8 else .may (str [117, 112, 100, 97, 116, 101]) fun x => if x then gChange n else .may (str [100, 101, 108, 101, 116, 101]) fun x => if x then gDel n
  else .may (str [97, 98, 111, 114, 116]) fun x => if x then gAbort n else .may (str [114, 101, 112, 108, 121]) fun x => if x then gReply n else .fail (.ret st0)
def gLimit : Pg b Int := .zero (.num fun n => .ret (min n 1001))
def gLim : Pg b Int := .may (str [108, 105, 109, 105, 116]) fun x => if x then gLimit else .ret 0
def gFor (n : Nat) (B : Pg b (List St)) : Pg b St := gRows.bind fun r => (gWhere (gExpr n n)).bind fun a => gLim.bind fun k => B.bind fun bl => .ret (.mk 6 r.1 r.2 k [] [a] bl [])
def gIf (n : Nat) (B : Pg b (List St)) : Pg b St := (gExpr n n).bind fun e => B.bind fun bl => .may (str [101, 108, 115, 101]) fun x => if x then B.bind fun el => .ret (.mk 7 nil0 nil0 0 [] [e] bl el) else .ret (.mk 7 nil0 nil0 0 [] [e] bl [])
def gStmt (n : Nat) (B : Pg b (List St)) : Pg b St := .may (str [102, 111, 114]) fun x => if x then gFor n B else .may (str [105, 102]) fun x => if x then gIf n B else (gPlain n).bind fun s => .must (str [59]) (.ret s)
def gStmts (one : Pg b St) : Nat → List St → Pg b (List St)
  | 0, l => .out (.ret l)
  | f + 1, l => .bad fun x => .is (str [125]) fun y => if !x && !y then one.bind fun s => gStmts one f (l ++ [s]) else .ret l
def gBlock (n : Nat) : Nat → Pg b (List St)
  | 0 => .out (.ret [])
  | f + 1 => .mustE (str [123]) ((gStmts (gStmt n (gBlock n f)) n []).bind fun l => .must (str [125]) (.leave (.ret l)))
def gKind : Pg b Int := .may (str [105, 110, 116]) fun x => if x then .ret 1 else .may (str [116, 101, 120, 116]) fun x => if x then .ret 2 else .may (str [98, 111, 111, 108]) fun x => if x then .ret 3 else .fail (.ret 0)
def gParam : Pg b Co := .name fun a => gKind.bind fun k => .ret ⟨a, k⟩
def gHead (n : Nat) : Pg true (List Co) := .close rfl fun x => if x then .ret [] else gList1 n gParam
def gFrom : Pg b (ByteArray × ByteArray) := .may (str [111, 110]) fun x => if x then .name fun a => .ret (nil0, a) else .may (str [102, 114, 111, 109]) fun x => if x then .name fun a => .ret (a, nil0) else .ret (nil0, nil0)
def gFuel : Pg b Int := .may (str [102, 117, 101, 108]) fun x => if x then .num fun k => .ret (min k 2001) else .ret 100
/-- a procedure, but its last closing brace -/
def gPre (n f : Nat) : Pg true Pr := .must (str [112, 114, 111, 99]) (.name fun nm => .mustE (str [40]) ((gHead n).bind fun ps => .must (str [41]) (.leave (gFrom.bind fun fr => gFuel.bind fun fu => .mustE (str [123]) ((gStmts (gStmt n (gBlock n f)) n []).bind fun bl => .ret ⟨nm, fr.1, fr.2, fu, ps, bl⟩)))))
/- what they run to -/
section
variable (W : Wds)
theorem exprW (s : PSt) : (gExpr W.fuel W.fuel : Pg b Ex).run W s = expr1 W s := run_expr W W.fuel s
theorem exprW' : (gExpr W.fuel W.fuel : Pg b Ex).run W = expr1 W := funext (exprW W)
theorem run_list (one : Pg b α) : ∀ k l s, (gList one k l).run W s = listP W (one.run W) k l s := by
  intro k
  induction k with
  | zero => exact fun l s => rfl
  | succ k ih =>
    intro l s
    show (if (mayQ W _ s).1 then (Pg.bind _ _ : Pg b (List α)) else .ret l).run W (mayQ W _ s).2 = _
    rw [mayQ_eq (by decide), listP_go]
    rcases may_cases W (str [44]) s with e | ⟨e, _⟩
    · rw [e]; rfl
    · rw [e]
      show (Pg.bind _ _).run W s.on = _
      rw [run_bind]
      exact ih _ _
theorem run_list1 (one : Pg b α) (s : PSt) : (gList1 W.fuel one).run W s = list1 W (one.run W) s := by
  unfold gList1
  rw [run_bind]
  exact run_list W one _ _ _
theorem run_exprs (s : PSt) : (gExprs W.fuel : Pg b _).run W s = exprsP W s := by
  unfold gExprs
  rw [run_list1, exprW']
  rfl
theorem run_assign (op : Int) (s : PSt) : (gAssign W.fuel op : Pg b St).run W s = assignP W op s := by
  show (Pg.bind _ _).run W (mustP W [str [61]] (nameP W s).2) = _
  rw [run_bind, exprW]
  rfl
theorem run_into (op : Int) (s : PSt) : (gInto W.fuel op : Pg b St).run W s = intoP W op s := by
  show (Pg.bind _ _).run W (enterP (mustP W [str [40]] (nameP W s).2)) = _
  rw [run_bind, run_exprs]
  rfl
theorem run_set (s : PSt) : (gSet W.fuel : Pg b _).run W s = setP W s := by
  show (Pg.bind _ _).run W (mustP W [str [61]] (nameP W s).2) = _
  rw [run_bind, exprW]
  rfl
theorem run_change (s : PSt) : (gChange W.fuel : Pg b St).run W s = changeP W s := by
  unfold gChange
  rw [run_bind, run_rows, run_bind, run_where, exprW', changeP_eq]
  show (Pg.bind _ _).run W (mustP W [str [115, 101, 116]] _) = _
  rw [run_bind, run_list1, show (gSet W.fuel : Pg b _).run W = setP W from funext (run_set W)]
  rfl
theorem run_del (s : PSt) : (gDel W.fuel : Pg b St).run W s = delP W s := by
  unfold gDel
  rw [run_bind, run_rows, run_bind, run_where, exprW']
  rfl
theorem run_abort (s : PSt) : (gAbort W.fuel : Pg b St).run W s = abortP W s := by
  unfold gAbort
  rw [run_bind, exprW]
  rfl
theorem run_reply (s : PSt) : (gReply W.fuel : Pg b St).run W s = replyP W s := by
  unfold gReply
  rw [run_bind, run_exprs]
  rfl
/-- at a choice -/
theorem run_may {t : ByteArray} (ht : t ≠ clS) (p q : Pg b α) (s : PSt) : (Pg.may t fun x => if x then p else q).run W s = if (mayP W t s).1 then p.run W (mayP W t s).2 else q.run W s := by
  show (if (mayQ W t s).1 then p else q).run W (mayQ W t s).2 = _
  rw [mayQ_eq ht]
  rcases may_cases W t s with e | ⟨e, _⟩
  · rw [e]; rfl
  · rw [e]; rfl
theorem run_plain (s : PSt) : (gPlain W.fuel : Pg b St).run W s = plainP W s := by
  unfold gPlain
  rw [plainP_eq]
  rw [run_may W (by decide), run_assign, run_may W (by decide), run_assign, run_may W (by decide), run_into, run_may W (by decide), run_into, run_may W (by decide), run_change, run_may W (by decide), run_del, run_may W (by decide), run_abort, run_may W (by decide), run_reply]
  rfl
theorem run_limit (s : PSt) : (gLimit : Pg b Int).run W s = limitP W s := rfl
theorem run_lim (s : PSt) : (gLim : Pg b Int).run W s = if (mayP W (str [108, 105, 109, 105, 116]) s).1 then limitP W (mayP W (str [108, 105, 109, 105, 116]) s).2 else (0, s) := by
  unfold gLim
  rw [run_may W (by decide), run_limit]
  rfl
theorem run_for (B : Pg b (List St)) (s : PSt) : (gFor W.fuel B).run W s = forP W (B.run W) s := by
  unfold gFor
  rw [run_bind, run_rows, run_bind, run_where, exprW', run_bind, run_lim, run_bind, forP_eq]
  rfl
theorem run_if (B : Pg b (List St)) (s : PSt) : (gIf W.fuel B).run W s = ifP W (B.run W) s := by
  unfold gIf
  rw [run_bind, exprW, run_bind, run_may W (by decide), run_bind, ifP_eq]
  rfl
theorem run_stmt (B : Pg b (List St)) (s : PSt) : (gStmt W.fuel B).run W s = stmtP W (B.run W) s := by
  unfold gStmt
  rw [run_may W (by decide), run_for, run_may W (by decide), run_if, run_bind, run_plain, stmtP_eq]
  rfl
theorem run_stmts (one : Pg b St) : ∀ k l s, (gStmts one k l).run W s = stmtsP W (one.run W) k l s := by
  intro k
  induction k with
  | zero => exact fun l s => rfl
  | succ k ih =>
    intro l s
    show (if !s.bad && !isQ W (str [125]) s then (Pg.bind _ _ : Pg b (List St)) else .ret l).run W s = _
    rw [isQ_eq (by decide), stmtsP_go]
    split
    · rw [run_bind]
      exact ih _ _
    · rfl
theorem run_block : ∀ f s, (gBlock W.fuel f : Pg b _).run W s = blockP W f s := by
  intro f
  induction f with
  | zero => exact fun s => rfl
  | succ f ih =>
    intro s
    show (Pg.bind _ _).run W (enterP (mustP W [str [123]] s)) = _
    rw [run_bind, run_stmts, blockP_eq, show (gStmt W.fuel (gBlock W.fuel f : Pg b _)).run W = stmtP W (blockP W f) from funext (fun s => by rw [run_stmt, show (gBlock W.fuel f : Pg b _).run W = blockP W f from funext ih])]
    rfl
theorem run_kind (s : PSt) : (gKind : Pg b Int).run W s = kindP W s := by
  unfold gKind
  rw [kindP_eq, run_may W (by decide), run_may W (by decide), run_may W (by decide)]
  rfl
theorem run_param (s : PSt) : (gParam : Pg b Co).run W s = paramP W s := by
  show (Pg.bind _ _).run W (nameP W s).2 = _
  rw [run_bind, run_kind]
  rfl
theorem run_head (s : PSt) : (gHead W.fuel).run W s = headP W s := by
  show (if isP W s clS then (.ret [] : Pg true (List Co)) else gList1 W.fuel gParam).run W s = _
  unfold headP
  cases h : isP W s (str [41]) with
  | true => rfl
  | false =>
    show (gList1 W.fuel (gParam : Pg true Co)).run W s = list1 W (paramP W) s
    rw [run_list1, show (gParam : Pg true Co).run W = paramP W from funext (run_param W)]
theorem run_from (s : PSt) : (gFrom : Pg b _).run W s = fromP W s := by
  unfold gFrom fromP
  rw [run_may W (by decide), run_may W (by decide)]
  rfl
theorem run_fuel (s : PSt) : (gFuel : Pg b _).run W s = fuelP W s := by
  unfold gFuel
  rw [fuelP_eq, run_may W (by decide)]
  rfl
theorem run_pre (s : PSt) : procP W s = (((gPre W.fuel W.l.length).run W s).1, leaveP (mustP W [str [125]] ((gPre W.fuel W.l.length).run W s).2)) := by
  have e : (gPre W.fuel W.l.length).run W s = (((gStmts (gStmt W.fuel (gBlock W.fuel W.l.length : Pg true _)) W.fuel []).bind fun bl => .ret (⟨(nameP W (mustP W [str [112, 114, 111, 99]] s)).1, (fromP W (leaveP (mustP W [str [41]] (headP W (enterP (mustP W [str [40]] (nameP W (mustP W [str [112, 114, 111, 99]] s)).2))).2))).1.1, (fromP W (leaveP (mustP W [str [41]] (headP W (enterP (mustP W [str [40]] (nameP W (mustP W [str [112, 114, 111, 99]] s)).2))).2))).1.2, (fuelP W (fromP W (leaveP (mustP W [str [41]] (headP W (enterP (mustP W [str [40]] (nameP W (mustP W [str [112, 114, 111, 99]] s)).2))).2))).2).1, (headP W (enterP (mustP W [str [40]] (nameP W (mustP W [str [112, 114, 111, 99]] s)).2))).1, bl⟩ : Pr))).run W (enterP (mustP W [str [123]] (fuelP W (fromP W (leaveP (mustP W [str [41]] (headP W (enterP (mustP W [str [40]] (nameP W (mustP W [str [112, 114, 111, 99]] s)).2))).2))).2).2)) := by
    show (Pg.bind _ _).run W (enterP (mustP W [str [40]] (nameP W (mustP W [str [112, 114, 111, 99]] s)).2)) = _
    rw [run_bind, run_head]
    show (Pg.bind _ _).run W (leaveP (mustP W [str [41]] _)) = _
    rw [run_bind, run_from, run_bind, run_fuel]
    rfl
  rw [e, run_bind, run_stmts, procP_eq]
  have hb : ∀ t, block1 W t = ((stmtsP W (stmtP W (blockP W W.l.length)) W.fuel [] (enterP (mustP W [str [123]] t))).1, leaveP (mustP W [str [125]] (stmtsP W (stmtP W (blockP W W.l.length)) W.fuel [] (enterP (mustP W [str [123]] t))).2)) := fun t => blockP_eq W W.l.length t
  rw [hb, show (gStmt W.fuel (gBlock W.fuel W.l.length : Pg true _)).run W = stmtP W (blockP W W.l.length) from funext (fun s => by rw [run_stmt, show (gBlock W.fuel W.l.length : Pg true _).run W = blockP W W.l.length from funext (run_block W _)])]
  rfl
end
end Go.Proofs.YtlakeanldbdedaaGreat

namespace Go.Proofs.YtlakeanldbdedaaGreat
open Go.RowKit Go.Afx

variable {b : Bool} {α : Type}
theorem ref_list {one one' : Pg b α} (h : Ref one one') : ∀ {n m : Nat}, n ≤ m → ∀ l, Ref (gList one n l) (gList one' m l) := by
  intro n
  induction n with
  | zero => exact fun _ l => .out _ _
  | succ n ih =>
    intro m hm l
    obtain ⟨m, rfl⟩ : ∃ k, m = k + 1 := ⟨m - 1, by omega⟩
    exact .may _ fun _ => ref_ite (Ref.bind h fun _ => ih (by omega) _) (Ref.refl _)
theorem ref_list1 {one one' : Pg b α} (h : Ref one one') {n m : Nat} (hm : n ≤ m) : Ref (gList1 n one) (gList1 m one') := Ref.bind h fun _ => ref_list h hm _
section
variable {n m : Nat} (hm : n ≤ m)
include hm
theorem ref_ex : Ref (gExpr n n : Pg b Ex) (gExpr m m) := ref_expr hm hm
theorem ref_exprs : Ref (gExprs n : Pg b _) (gExprs m) := ref_list1 (ref_ex hm) hm
theorem ref_assign (op : Int) : Ref (gAssign n op : Pg b St) (gAssign m op) := .name fun _ => .must _ (Ref.bind (ref_ex hm) fun _ => Ref.refl _)
theorem ref_into (op : Int) : Ref (gInto n op : Pg b St) (gInto m op) := .name fun _ => .mustE _ (Ref.bind (ref_exprs hm) fun _ => Ref.refl _)
theorem ref_set : Ref (gSet n : Pg b _) (gSet m) := .name fun _ => .must _ (Ref.bind (ref_ex hm) fun _ => Ref.refl _)
theorem ref_change : Ref (gChange n : Pg b St) (gChange m) := Ref.bind (Ref.refl _) fun _ => Ref.bind (ref_where (ref_ex hm)) fun _ => .must _ (Ref.bind (ref_list1 (ref_set hm) hm) fun _ => Ref.refl _)
theorem ref_del : Ref (gDel n : Pg b St) (gDel m) := Ref.bind (Ref.refl _) fun _ => Ref.bind (ref_where (ref_ex hm)) fun _ => Ref.refl _
theorem ref_abort : Ref (gAbort n : Pg b St) (gAbort m) := Ref.bind (ref_ex hm) fun _ => Ref.refl _
theorem ref_reply : Ref (gReply n : Pg b St) (gReply m) := Ref.bind (ref_exprs hm) fun _ => Ref.refl _
theorem ref_plain : Ref (gPlain n : Pg b St) (gPlain m) := .may _ fun _ => ref_ite (ref_assign hm _) (.may _ fun _ => ref_ite (ref_assign hm _) (.may _ fun _ => ref_ite (ref_into hm _) (.may _ fun _ => ref_ite (ref_into hm _) (.may _ fun _ => ref_ite (ref_change hm) (.may _ fun _ => ref_ite (ref_del hm) (.may _ fun _ => ref_ite (ref_abort hm) (.may _ fun _ => ref_ite (ref_reply hm) (Ref.refl _))))))))
variable {B B' : Pg b (List St)} (h : Ref B B')
include h
theorem ref_for : Ref (gFor n B) (gFor m B') := Ref.bind (Ref.refl _) fun _ => Ref.bind (ref_where (ref_ex hm)) fun _ => Ref.bind (Ref.refl _) fun _ => Ref.bind h fun _ => Ref.refl _
theorem ref_if : Ref (gIf n B) (gIf m B') := Ref.bind (ref_ex hm) fun _ => Ref.bind h fun _ => .may _ fun _ => ref_ite (Ref.bind h fun _ => Ref.refl _) (Ref.refl _)
theorem ref_stmt : Ref (gStmt n B) (gStmt m B') := .may _ fun _ => ref_ite (ref_for hm h) (.may _ fun _ => ref_ite (ref_if hm h) (Ref.bind (ref_plain hm) fun _ => Ref.refl _))
end
theorem ref_stmts {one one' : Pg b St} (h : Ref one one') : ∀ {n m : Nat}, n ≤ m → ∀ l, Ref (gStmts one n l) (gStmts one' m l) := by
  intro n
  induction n with
  | zero => exact fun _ l => .out _ _
  | succ n ih =>
    intro m hm l
    obtain ⟨m, rfl⟩ : ∃ k, m = k + 1 := ⟨m - 1, by omega⟩
    exact .bad fun _ => .is _ fun _ => ref_ite (Ref.bind h fun _ => ih (by omega) _) (Ref.refl _)
theorem ref_block {n m : Nat} (hm : n ≤ m) : ∀ {i j : Nat}, i ≤ j → Ref (gBlock n i : Pg b _) (gBlock m j) := by
  intro i
  induction i with
  | zero => exact fun _ => .out _ _
  | succ i ih =>
    intro j hj
    obtain ⟨j, rfl⟩ : ∃ k, j = k + 1 := ⟨j - 1, by omega⟩
    exact .mustE _ (Ref.bind (ref_stmts (ref_stmt hm (ih (by omega))) hm _) fun _ => Ref.refl _)
theorem ref_pre {n m : Nat} (hm : n ≤ m) {i j : Nat} (hj : i ≤ j) : Ref (gPre n i) (gPre m j) :=
  .must _ (.name fun _ => .mustE _ (Ref.bind (.close rfl fun _ => ref_ite (Ref.refl _) (ref_list1 (Ref.refl _) hm)) fun _ => .must _ (.leave (Ref.bind (Ref.refl _) fun _ => Ref.bind (Ref.refl _) fun _ => .mustE _ (Ref.bind (ref_stmts (ref_stmt hm (ref_block hm hj)) hm _) fun _ => Ref.refl _)))))
/- never run out -/
section
variable (W : Wds)
theorem safe_ex (s : PSt) : (gExpr W.fuel W.fuel : Pg b Ex).Safe W s := expr1_safe W s
theorem safe_list (one : Pg b α) (h : ∀ s, one.Safe W s) : ∀ k, 1 ≤ k → ∀ l s, Fit W k s → (gList one k l).Safe W s := by
  intro k
  induction k with
  | zero => intro h; omega
  | succ k ih =>
    intro _ l s hk
    show (if (mayQ W _ s).1 then (Pg.bind _ _ : Pg b (List α)) else .ret l).Safe W (mayQ W _ s).2
    rcases mayQ_cases W (str [44]) s with e | ⟨e, hb, hlt⟩
    · rw [e]; exact trivial
    · rw [e]
      have hk1 : W.l.length < s.at_ + (k + 1) := hk.elim (fun e => by rw [hb] at e; cases e) id
      exact safe_bind W _ _ _ (h _) (ih (by omega) _ _ ((Fit.on hk).ge (run_ge W one _)))
theorem safe_list1 (one : Pg b α) (h : ∀ s, one.Safe W s) (s : PSt) : (gList1 W.fuel one).Safe W s := safe_bind W _ _ s (h s) (safe_list W one h W.fuel (by unfold Wds.fuel; omega) _ _ (fit_all W _))
theorem safe_exprs (s : PSt) : (gExprs W.fuel : Pg b _).Safe W s := safe_list1 W _ (safe_ex W) s
theorem safe_wh (s : PSt) : (gWhere (gExpr W.fuel W.fuel) : Pg b Ex).Safe W s := safe_where fun s' _ => safe_ex W s'
theorem safe_may {t : ByteArray} {p q : Pg b α} (hp : ∀ s, p.Safe W s) (hq : ∀ s, q.Safe W s) (s : PSt) : (Pg.may t fun x => if x then p else q).Safe W s := safe_ite (fun _ => hp _) (fun _ => hq _)
theorem safe_assign (op : Int) (s : PSt) : (gAssign W.fuel op : Pg b St).Safe W s := safe_bind W _ _ _ (safe_ex W _) trivial
theorem safe_into (op : Int) (s : PSt) : (gInto W.fuel op : Pg b St).Safe W s := safe_bind W _ _ _ (safe_exprs W _) trivial
theorem safe_set (s : PSt) : (gSet W.fuel : Pg b _).Safe W s := safe_bind W _ _ _ (safe_ex W _) trivial
theorem safe_change (s : PSt) : (gChange W.fuel : Pg b St).Safe W s := safe_bind W _ _ _ trivial (safe_bind W _ _ _ (safe_wh W _) (safe_bind W _ _ _ (safe_list1 W _ (safe_set W) _) trivial))
theorem safe_del (s : PSt) : (gDel W.fuel : Pg b St).Safe W s := safe_bind W _ _ _ trivial (safe_bind W _ _ _ (safe_wh W _) trivial)
theorem safe_abort (s : PSt) : (gAbort W.fuel : Pg b St).Safe W s := safe_bind W _ _ _ (safe_ex W _) trivial
theorem safe_reply (s : PSt) : (gReply W.fuel : Pg b St).Safe W s := safe_bind W _ _ _ (safe_exprs W _) trivial
theorem safe_plain (s : PSt) : (gPlain W.fuel : Pg b St).Safe W s :=
  safe_ite (fun _ => safe_assign W _ _) (fun _ => safe_ite (fun _ => safe_assign W _ _) (fun _ => safe_ite (fun _ => safe_into W _ _) (fun _ => safe_ite (fun _ => safe_into W _ _) (fun _ => safe_ite (fun _ => safe_change W _) (fun _ => safe_ite (fun _ => safe_del W _) (fun _ => safe_ite (fun _ => safe_abort W _) (fun _ => safe_ite (fun _ => safe_reply W _) (fun _ => trivial))))))))
theorem safe_lim (s : PSt) : (gLim : Pg b Int).Safe W s := safe_ite (fun _ => trivial) (fun _ => trivial)
theorem kind_in {n : Int} (hn : n ≠ 4) {s : PSt} (h : (W.look s.at_).kind = n) : s.at_ < W.l.length := by
  rcases Nat.lt_or_ge s.at_ W.l.length with h1 | h1
  · exact h1
  · rw [look_end h1] at h; exact absurd h.symm hn
theorem le_mayQ (t : ByteArray) {s : PSt} (h : s.at_ ≤ W.l.length) : (mayQ W t s).2.at_ ≤ W.l.length := by
  rcases mayQ_cases W t s with e | ⟨e, _, h2⟩ <;> rw [e]
  · exact h
  · exact h2
theorem le_must (t : ByteArray) {s : PSt} (h : s.at_ ≤ W.l.length) : (mustP W [t] s).at_ ≤ W.l.length := by
  rcases must_cases W t s with ⟨e, _, _, h2⟩ | e <;> rw [e]
  · exact h2
  · exact h
theorem at_enter (s : PSt) : (enterP s).at_ = s.at_ := by unfold enterP; split <;> rfl
theorem at_entQ (p : Bool × PSt) : (entQ p).at_ = p.2.at_ := by
  unfold entQ
  split
  · exact at_enter _
  · rfl
/-- it never goes beyond the end -/
theorem run_le (p : Pg b α) : ∀ s, s.at_ ≤ W.l.length → (p.run W s).2.at_ ≤ W.l.length := by
  induction p with
  | ret a => exact fun s h => h
  | out k ih => exact ih
  | may t k ih => exact fun s h => ih _ _ (le_mayQ W t h)
  | mayE t k ih => exact fun s h => ih _ _ (by rw [at_entQ]; exact le_mayQ W t h)
  | must t k ih => exact fun s h => ih _ (le_must W t h)
  | mustE t k ih => exact fun s h => ih _ (by rw [at_enter]; exact le_must W t h)
  | leave k ih => exact fun s h => ih _ h
  | fail k ih => exact fun s h => ih _ h
  | name k ih =>
    intro s h
    refine ih _ _ ?_
    unfold nameP
    split
    · exact h
    · rename_i hc
      simp only [Bool.or_eq_true, Bool.not_eq_true', decide_eq_false_iff_not, not_or, Decidable.not_not] at hc
      exact kind_in W (by decide) hc.1.2
  | num k ih =>
    intro s h
    refine ih _ _ ?_
    unfold numP
    split
    · exact h
    · split
      · rename_i hc; exact kind_in W (by decide) hc
      · exact h
  | txt k ih =>
    intro s h
    refine ih _ _ ?_
    unfold txtP
    split
    · exact h
    · split
      · rename_i hc; exact kind_in W (by decide) hc
      · exact h
  | bad k ih => exact fun s h => ih _ _ h
  | knd n k ih => exact fun s h => ih _ _ h
  | is t k ih => exact fun s h => ih _ _ h
  | close h0 k ih => exact fun s h => ih _ _ h
  | zero k ih =>
    intro s h
    refine ih _ ?_
    unfold zeroQ
    split <;> exact h
section
variable {B : Pg b (List St)} {m : Nat} (hB : 1 ≤ m → ∀ s, s.at_ ≤ W.l.length → Fit W m s → B.Safe W s)
include hB
theorem safe_for (h1 : 1 ≤ m) (s : PSt) (hl : s.at_ ≤ W.l.length) (hf : Fit W m s) : (gFor W.fuel B).Safe W s := by
  refine safe_bind W _ _ _ trivial (safe_bind W _ _ _ (safe_wh W _) (safe_bind W _ _ _ (safe_lim W _) (safe_bind W _ _ _ (hB h1 _ ?_ ?_) trivial)))
  · exact run_le W _ _ (run_le W _ _ (run_le W _ _ hl))
  · exact ((hf.ge (run_ge W _ s)).ge (run_ge W _ _)).ge (run_ge W _ _)
theorem safe_if (h1 : 1 ≤ m) (s : PSt) (hl : s.at_ ≤ W.l.length) (hf : Fit W m s) : (gIf W.fuel B).Safe W s := by
  have hf1 := hf.ge (run_ge W (gExpr W.fuel W.fuel : Pg b Ex) s)
  have hl1 := run_le W (gExpr W.fuel W.fuel : Pg b Ex) s hl
  have hf2 := hf1.ge (run_ge W B _)
  have hl2 := run_le W B _ hl1
  exact safe_bind W _ _ _ (safe_ex W _) (safe_bind W _ _ _ (hB h1 _ hl1 hf1) (safe_ite (fun _ => safe_bind W _ _ _ (hB h1 _ (le_mayQ W _ hl2) (hf2.ge (ge_mayQ W _ _))) trivial) (fun _ => trivial)))
theorem safe_stmt (h1 : 1 ≤ m) (s : PSt) (hl : s.at_ ≤ W.l.length) (hf : Fit W m s) : (gStmt W.fuel B).Safe W s :=
  safe_ite (fun _ => safe_for W hB h1 _ (le_mayQ W _ hl) (hf.ge (ge_mayQ W _ _))) (fun _ => safe_ite (fun _ => safe_if W hB h1 _ (le_mayQ W _ (le_mayQ W _ hl)) ((hf.ge (ge_mayQ W _ _)).ge (ge_mayQ W _ _))) (fun _ => safe_bind W _ _ _ (safe_plain W _) trivial))
end
theorem safe_stmts (one : Pg b St) (m : Nat) (h : ∀ s, s.at_ ≤ W.l.length → s.bad = false → Fit W m s → one.Safe W s) (hmore : ∀ s, (one.run W s).2.bad = true ∨ s.at_ + 1 ≤ (one.run W s).2.at_) : ∀ k l s, s.at_ ≤ W.l.length → Fit W k s → Fit W m s → (gStmts one (k + 1) l).Safe W s := by
  intro k
  induction k with
  | zero =>
    intro l s hle hk hm
    refine safe_ite (fun hc => ?_) (fun _ => trivial)
    simp only [Bool.and_eq_true, Bool.not_eq_true'] at hc
    rcases hk with e | e
    · rw [hc.1] at e; cases e
    · omega
  | succ k ih =>
    intro l s hle hk hm
    refine safe_ite (fun hc => ?_) (fun _ => trivial)
    simp only [Bool.and_eq_true, Bool.not_eq_true'] at hc
    have hk1 : W.l.length < s.at_ + (k + 1) := hk.elim (fun e => by rw [hc.1] at e; cases e) id
    refine safe_bind W _ _ _ (h s hle hc.1 hm) (ih _ _ (run_le W one s hle) ?_ (hm.ge (run_ge W one s)))
    rcases hmore s with e | e
    · exact .inl e
    · exact .inr (by omega)
theorem safe_block : ∀ f, 1 ≤ f → ∀ s, s.at_ ≤ W.l.length → Fit W f s → (gBlock W.fuel f : Pg b _).Safe W s := by
  intro f
  induction f with
  | zero => intro h; omega
  | succ f ih =>
    intro _ s hle hf
    refine safe_bind W _ _ _ ?_ trivial
    have hmo : (enterP (mustP W [str [123]] s)).bad = true ∨ s.at_ + 1 ≤ (enterP (mustP W [str [123]] s)).at_ := (must_more W (str [123]) s).imp (ge_enter _).2 (fun e => by rw [at_enter]; exact e)
    have hle2 : (enterP (mustP W [str [123]] s)).at_ ≤ W.l.length := by rw [at_enter]; exact le_must W _ hle
    have hf2 : Fit W f (enterP (mustP W [str [123]] s)) := by
      rcases hmo with e | e
      · exact .inl e
      · rcases hf with h | h
        · exact .inl (((ge_must W _ s).trans (ge_enter _)).2 h)
        · exact .inr (by omega)
    have hfl : Fit W W.l.length (enterP (mustP W [str [123]] s)) := by
      rcases hmo with e | e
      · exact .inl e
      · exact .inr (by omega)
    refine safe_stmts W _ f (fun t htl htb htf => ?_) (fun t => ?_) W.l.length [] _ hle2 hfl hf2
    · have h1 : 1 ≤ f := by
        rcases htf with e | e
        · rw [htb] at e; cases e
        · omega
      exact safe_stmt W ih h1 t htl htf
    · rw [run_stmt, show (gBlock W.fuel f : Pg b _).run W = blockP W f from funext (run_block W f)]
      exact (stmt_more W (up_block W f) t).2
theorem safe_kind (s : PSt) : (gKind : Pg b Int).Safe W s := safe_ite (fun _ => trivial) (fun _ => safe_ite (fun _ => trivial) (fun _ => safe_ite (fun _ => trivial) (fun _ => trivial)))
theorem safe_param (s : PSt) : (gParam : Pg b Co).Safe W s := safe_bind W _ _ _ (safe_kind W _) trivial
theorem safe_pre (s : PSt) (hle : s.at_ ≤ W.l.length) : (gPre W.fuel W.l.length).Safe W s := by
  have hl1 : (nameP W (mustP W [str [112, 114, 111, 99]] s)).2.at_ ≤ W.l.length := run_le W (.must (str [112, 114, 111, 99]) (.name fun _ => .ret ()) : Pg true Unit) s hle
  have hl2 : (enterP (mustP W [str [40]] (nameP W (mustP W [str [112, 114, 111, 99]] s)).2)).at_ ≤ W.l.length := by rw [at_enter]; exact le_must W _ hl1
  show (Pg.bind _ _).Safe W (enterP (mustP W [str [40]] (nameP W (mustP W [str [112, 114, 111, 99]] s)).2))
  refine safe_bind W _ _ _ (safe_ite (fun _ => trivial) (fun _ => safe_list1 W _ (safe_param W) _)) ?_
  have hl3 := run_le W (gHead W.fuel) _ hl2
  show (Pg.bind _ _).Safe W (leaveP (mustP W [str [41]] _))
  have hl4 : (leaveP (mustP W [str [41]] ((gHead W.fuel).run W (enterP (mustP W [str [40]] (nameP W (mustP W [str [112, 114, 111, 99]] s)).2))).2)).at_ ≤ W.l.length := le_must W _ hl3
  refine safe_bind W _ _ _ (safe_ite (fun _ => trivial) (fun _ => safe_ite (fun _ => trivial) (fun _ => trivial))) ?_
  have hl5 := run_le W (gFrom : Pg true _) _ hl4
  refine safe_bind W _ _ _ (safe_ite (fun _ => trivial) (fun _ => trivial)) ?_
  have hl6 := run_le W (gFuel : Pg true _) _ hl5
  generalize ((gFuel : Pg true _).run W ((gFrom : Pg true _).run W (leaveP (mustP W [str [41]] ((gHead W.fuel).run W (enterP (mustP W [str [40]] (nameP W (mustP W [str [112, 114, 111, 99]] s)).2))).2))).2) = u at *
  show (Pg.bind _ _).Safe W (enterP (mustP W [str [123]] u.2))
  have hmo : (enterP (mustP W [str [123]] u.2)).bad = true ∨ u.2.at_ + 1 ≤ (enterP (mustP W [str [123]] u.2)).at_ := (must_more W (str [123]) u.2).imp (ge_enter _).2 (fun e => by rw [at_enter]; exact e)
  have hfl : Fit W W.l.length (enterP (mustP W [str [123]] u.2)) := hmo.elim .inl (fun e => .inr (by omega))
  refine safe_bind W _ _ _ (safe_stmts W _ W.l.length (fun t htl htb htf => ?_) (fun t => ?_) W.l.length [] _ (by rw [at_enter]; exact le_must W _ hl6) hfl hfl) trivial
  · have h1 : 1 ≤ W.l.length := by
      rcases htf with e | e
      · rw [htb] at e; cases e
      · omega
    exact safe_stmt W (fun h s hl hf => safe_block W W.l.length h s hl hf) h1 t htl htf
  · rw [run_stmt, show (gBlock W.fuel W.l.length : Pg true _).run W = blockP W W.l.length from funext (run_block W _)]
    exact (stmt_more W (up_block W _) t).2
end
end Go.Proofs.YtlakeanldbdedaaGreat

namespace Go.Proofs.YtlakeanldbdedaaGreat
open Go.RowKit Go.Afx

variable {b : Bool} {α : Type}
/-- at the end of the words nothing is taken any more -/
theorem run_stuck (W : Wds) (p : Pg b α) : ∀ s, s.at_ = W.l.length → (p.run W s).2.at_ = W.l.length ∧ (p.run W s).2.over = s.over := by
  have hk : ∀ {s : PSt}, s.at_ = W.l.length → (W.look s.at_).kind = 4 := fun h => by rw [look_end (by omega)]
  have hmay : ∀ t {s : PSt}, s.at_ = W.l.length → mayQ W t s = (false, s) := fun t s h => by
    rcases mayQ_cases W t s with e | ⟨_, _, e⟩
    · exact e
    · omega
  have hmust : ∀ t {s : PSt}, s.at_ = W.l.length → mustP W [t] s = s.fail := fun t s h => by
    rcases must_cases W t s with ⟨_, _, _, e⟩ | e
    · omega
    · exact e
  induction p with
  | ret a => exact fun s h => ⟨h, rfl⟩
  | out k ih => exact ih
  | may t k ih =>
    intro s h
    show ((k (mayQ W t s).1).run W (mayQ W t s).2).2.at_ = _ ∧ ((k (mayQ W t s).1).run W (mayQ W t s).2).2.over = _
    rw [hmay t h]
    exact ih _ _ h
  | mayE t k ih =>
    intro s h
    show ((k (mayQ W t s).1).run W (entQ (mayQ W t s))).2.at_ = _ ∧ ((k (mayQ W t s).1).run W (entQ (mayQ W t s))).2.over = _
    rw [hmay t h]
    exact ih _ _ h
  | must t k ih =>
    intro s h
    show (k.run W (mustP W [t] s)).2.at_ = _ ∧ (k.run W (mustP W [t] s)).2.over = _
    rw [hmust t h]
    exact ih _ h
  | mustE t k ih =>
    intro s h
    show (k.run W (enterP (mustP W [t] s))).2.at_ = _ ∧ (k.run W (enterP (mustP W [t] s))).2.over = _
    rw [hmust t h]
    have e : enterP s.fail = upP s.fail := by
      unfold enterP
      rw [if_neg]
      show ¬ (decide (60 < (upP s.fail).deep) && !true) = true
      simp
    rw [e]
    exact ih _ h
  | leave k ih => exact fun s h => ih _ h
  | fail k ih => exact fun s h => ih _ h
  | name k ih =>
    intro s h
    have e : nameP W s = (str [], s.fail) := by
      unfold nameP
      rw [hk h]
      simp
    show ((k (nameP W s).1).run W (nameP W s).2).2.at_ = _ ∧ ((k (nameP W s).1).run W (nameP W s).2).2.over = _
    rw [e]
    exact ih _ _ h
  | num k ih =>
    intro s h
    have e : (numP W s).2.at_ = W.l.length := by
      unfold numP
      rw [hk h]
      split <;> exact h
    have h2 := ih (numP W s).1 (numP W s).2 e
    rw [over_num] at h2
    exact h2
  | txt k ih =>
    intro s h
    have e : (txtP W s).2.at_ = W.l.length := by
      unfold txtP
      rw [hk h]
      split <;> exact h
    have h2 := ih (txtP W s).1 (txtP W s).2 e
    rw [over_txt] at h2
    exact h2
  | bad k ih => exact fun s h => ih _ _ h
  | knd n k ih => exact fun s h => ih _ _ h
  | is t k ih => exact fun s h => ih _ _ h
  | close h0 k ih => exact fun s h => ih _ _ h
  | zero k ih =>
    intro s h
    have e : zeroQ W s = s := by
      unfold zeroQ
      rw [if_neg]
      rintro ⟨h1, _⟩
      rw [hk h] at h1
      cases h1
    show (k.run W (zeroQ W s)).2.at_ = _ ∧ (k.run W (zeroQ W s)).2.over = _
    rw [e]
    exact ih _ h
/-- W2 has W's first words -/
structure Cut2 (W W2 : Wds) : Prop where
  same : ∀ i, i < W2.l.length → W2.look i = W.look i
  le : W2.l.length ≤ W.l.length
theorem run_cut {W W2 : Wds} (hC : Cut2 W W2) (p : Pg b α) : ∀ s, s.at_ ≤ W2.l.length → ((p.run W2 s).2.at_ < W2.l.length → p.run W2 s = p.run W s) ∧ ((p.run W2 s).2.over = true → (p.run W s).2.over = true) := by
  have hstop : ∀ (p : Pg b α) s, s.at_ = W2.l.length → ((p.run W2 s).2.at_ < W2.l.length → p.run W2 s = p.run W s) ∧ ((p.run W2 s).2.over = true → (p.run W s).2.over = true) := fun p s h => by
    obtain ⟨h1, h2⟩ := run_stuck W2 p s h
    exact ⟨fun h3 => by omega, fun h3 => run_over W p s (by rw [← h2]; exact h3)⟩
  have hmay : ∀ t {s : PSt}, s.at_ < W2.l.length → mayQ W2 t s = mayQ W t s := fun t s h => by
    unfold mayQ mayP isP
    rw [hC.same _ h]
  have hmust : ∀ t {s : PSt}, s.at_ < W2.l.length → mustP W2 [t] s = mustP W [t] s := fun t s h => by
    unfold mustP mustP mayP isP
    rw [hC.same _ h]
  have hor : ∀ s : PSt, s.at_ ≤ W2.l.length → s.at_ = W2.l.length ∨ s.at_ < W2.l.length := fun s h => by omega
  induction p with
  | ret a => exact fun s h => ⟨fun _ => rfl, id⟩
  | out k ih => exact ih
  | may t k ih =>
    intro s h
    rcases hor s h with h | h
    · exact hstop _ s h
    · have h2 := le_mayQ W2 t (s := s) (by omega)
      show (((k (mayQ W2 t s).1).run W2 (mayQ W2 t s).2).2.at_ < _ → (k (mayQ W2 t s).1).run W2 (mayQ W2 t s).2 = _) ∧ (((k (mayQ W2 t s).1).run W2 (mayQ W2 t s).2).2.over = true → _)
      rw [hmay t h] at h2 ⊢
      exact ih _ _ h2
  | mayE t k ih =>
    intro s h
    rcases hor s h with h | h
    · exact hstop _ s h
    · have h2 := le_mayQ W2 t (s := s) (by omega)
      show (((k (mayQ W2 t s).1).run W2 (entQ (mayQ W2 t s))).2.at_ < _ → (k (mayQ W2 t s).1).run W2 (entQ (mayQ W2 t s)) = _) ∧ (((k (mayQ W2 t s).1).run W2 (entQ (mayQ W2 t s))).2.over = true → _)
      rw [hmay t h] at h2 ⊢
      exact ih _ _ (by rw [at_entQ]; exact h2)
  | must t k ih =>
    intro s h
    rcases hor s h with h | h
    · exact hstop _ s h
    · have h2 := le_must W2 t (s := s) (by omega)
      show ((k.run W2 (mustP W2 [t] s)).2.at_ < _ → k.run W2 (mustP W2 [t] s) = _) ∧ ((k.run W2 (mustP W2 [t] s)).2.over = true → _)
      rw [hmust t h] at h2 ⊢
      exact ih _ h2
  | mustE t k ih =>
    intro s h
    rcases hor s h with h | h
    · exact hstop _ s h
    · have h2 := le_must W2 t (s := s) (by omega)
      show ((k.run W2 (enterP (mustP W2 [t] s))).2.at_ < _ → k.run W2 (enterP (mustP W2 [t] s)) = _) ∧ ((k.run W2 (enterP (mustP W2 [t] s))).2.over = true → _)
      rw [hmust t h] at h2 ⊢
      exact ih _ (by rw [at_enter]; exact h2)
  | leave k ih => exact fun s h => ih _ h
  | fail k ih => exact fun s h => ih _ h
  | name k ih =>
    intro s h
    rcases hor s h with h | h
    · exact hstop _ s h
    · have e : nameP W2 s = nameP W s := by unfold nameP; rw [hC.same _ h]
      have h2 : (nameP W2 s).2.at_ ≤ W2.l.length := run_le W2 (.name fun _ => .ret () : Pg true Unit) s (by omega)
      show (((k (nameP W2 s).1).run W2 (nameP W2 s).2).2.at_ < _ → (k (nameP W2 s).1).run W2 (nameP W2 s).2 = _) ∧ (((k (nameP W2 s).1).run W2 (nameP W2 s).2).2.over = true → _)
      rw [e] at h2 ⊢
      exact ih _ _ h2
  | num k ih =>
    intro s h
    rcases hor s h with h | h
    · exact hstop _ s h
    · have e : numP W2 s = numP W s := by unfold numP; rw [hC.same _ h]
      have h2 : (numP W2 s).2.at_ ≤ W2.l.length := run_le W2 (.num fun _ => .ret () : Pg true Unit) s (by omega)
      show (((k (numP W2 s).1).run W2 (numP W2 s).2).2.at_ < _ → (k (numP W2 s).1).run W2 (numP W2 s).2 = _) ∧ (((k (numP W2 s).1).run W2 (numP W2 s).2).2.over = true → _)
      rw [e] at h2 ⊢
      exact ih _ _ h2
  | txt k ih =>
    intro s h
    rcases hor s h with h | h
    · exact hstop _ s h
    · have e : txtP W2 s = txtP W s := by unfold txtP; rw [hC.same _ h]
      have h2 : (txtP W2 s).2.at_ ≤ W2.l.length := run_le W2 (.txt fun _ => .ret () : Pg true Unit) s (by omega)
      show (((k (txtP W2 s).1).run W2 (txtP W2 s).2).2.at_ < _ → (k (txtP W2 s).1).run W2 (txtP W2 s).2 = _) ∧ (((k (txtP W2 s).1).run W2 (txtP W2 s).2).2.over = true → _)
      rw [e] at h2 ⊢
      exact ih _ _ h2
  | bad k ih => exact fun s h => ih _ _ h
  | knd n k ih =>
    intro s h
    rcases hor s h with h | h
    · exact hstop _ s h
    · have e : kndQ W2 n s = kndQ W n s := by unfold kndQ; rw [hC.same _ h]
      show (((k (kndQ W2 n s)).run W2 s).2.at_ < _ → (k (kndQ W2 n s)).run W2 s = _) ∧ (((k (kndQ W2 n s)).run W2 s).2.over = true → _)
      rw [e]
      exact ih _ _ (by omega)
  | is t k ih =>
    intro s h
    rcases hor s h with h | h
    · exact hstop _ s h
    · have e : isQ W2 t s = isQ W t s := by unfold isQ isP; rw [hC.same _ h]
      show (((k (isQ W2 t s)).run W2 s).2.at_ < _ → (k (isQ W2 t s)).run W2 s = _) ∧ (((k (isQ W2 t s)).run W2 s).2.over = true → _)
      rw [e]
      exact ih _ _ (by omega)
  | close h0 k ih =>
    intro s h
    rcases hor s h with h | h
    · exact hstop _ s h
    · have e : isP W2 s clS = isP W s clS := by unfold isP; rw [hC.same _ h]
      show (((k (isP W2 s clS)).run W2 s).2.at_ < _ → (k (isP W2 s clS)).run W2 s = _) ∧ (((k (isP W2 s clS)).run W2 s).2.over = true → _)
      rw [e]
      exact ih _ _ (by omega)
  | zero k ih =>
    intro s h
    rcases hor s h with h | h
    · exact hstop _ s h
    · have e : zeroQ W2 s = zeroQ W s := by unfold zeroQ; rw [hC.same _ h]
      have h2 : (zeroQ W2 s).at_ ≤ W2.l.length := run_le W2 (.zero (.ret ()) : Pg true Unit) s (by omega)
      show ((k.run W2 (zeroQ W2 s)).2.at_ < _ → k.run W2 (zeroQ W2 s) = _) ∧ ((k.run W2 (zeroQ W2 s)).2.over = true → _)
      rw [e] at h2 ⊢
      exact ih _ h2
/-- a procedure whose words are cut off ends too early -/
theorem proc_cut {W W2 : Wds} (hC : Cut2 W W2) (hlt : W2.l.length < W.l.length) (ho : (procP W PSt.start).2.over = false) (ha : W.l.length ≤ (procP W PSt.start).2.at_) :
    (procP W2 PSt.start).2.over = false ∧ (procP W2 PSt.start).2.bad = true ∧ (procP W2 PSt.start).2.at_ = W2.l.length := by
  have hf : W2.fuel ≤ W.fuel := by unfold Wds.fuel; omega
  have e2 : (gPre W2.fuel W2.l.length).run W2 PSt.start = (gPre W.fuel W.l.length).run W2 PSt.start := Ref.run (ref_pre hf (by omega)) (safe_pre W2 PSt.start (Nat.zero_le _))
  rw [run_pre W2, e2]
  rw [run_pre W] at ho ha
  obtain ⟨h1, h2⟩ := run_cut hC (gPre W.fuel W.l.length) PSt.start (Nat.zero_le _)
  have h3 := run_le W2 (gPre W.fuel W.l.length) PSt.start (Nat.zero_le _)
  generalize (gPre W.fuel W.l.length).run W2 PSt.start = q2 at *
  generalize (gPre W.fuel W.l.length).run W PSt.start = q at *
  have ho1 : q.2.over = false := by
    have : (mustP W [str [125]] q.2).over = false := ho
    rw [over_must] at this
    exact this
  have ho2 : q2.2.over = false := by
    cases h : q2.2.over with
    | false => rfl
    | true => rw [h2 h] at ho1; cases ho1
  have ha1 : W.l.length ≤ (mustP W [str [125]] q.2).at_ := ha
  rcases Nat.lt_or_ge q2.2.at_ W2.l.length with hl | hg
  · have e := h1 hl
    subst e
    have : (mustP W [str [125]] q2.2).at_ ≤ q2.2.at_ + 1 := by
      rcases must_cases W (str [125]) q2.2 with ⟨e, _⟩ | e <;> rw [e]
      · exact Nat.le_refl _
      · exact Nat.le_succ _
    omega
  · have hm : mustP W2 [str [125]] q2.2 = q2.2.fail := by
      rcases must_cases W2 (str [125]) q2.2 with ⟨_, _, _, e⟩ | e
      · omega
      · exact e
    show (mustP W2 [str [125]] q2.2).over = false ∧ (mustP W2 [str [125]] q2.2).bad = true ∧ (mustP W2 [str [125]] q2.2).at_ = _
    rw [hm]
    exact ⟨ho2, rfl, by show q2.2.at_ = _; omega⟩
end Go.Proofs.YtlakeanldbdedaaGreat

namespace Go.Proofs.YtlakeanldbdedaaGreat
open Go.RowKit Go.Afx

/-- where a procedure is parsed: what was run -/
theorem procX_zero {L : List UInt8} (h : (procX L).2.2 = 0) : ¬ 8000 < L.length ∧ ∃ ws, lexL L = .inr ws ∧ (procP ⟨ws, L.length⟩ PSt.start).2.over = false ∧ ws.length ≤ (procP ⟨ws, L.length⟩ PSt.start).2.at_ := by
  by_cases h8 : 8000 < L.length
  · unfold procX at h; rw [textX_long h8] at h; cases h
  · refine ⟨h8, ?_⟩
    cases hl : lexL L with
    | inl a => unfold procX at h; rw [textX_inl h8 hl] at h; cases h
    | inr ws =>
      refine ⟨ws, rfl, ?_⟩
      have e : procX L = endX pr0 (rightB 9000) ⟨ws, L.length⟩ (procP ⟨ws, L.length⟩ PSt.start) := textX_inr h8 hl
      rw [e] at h
      generalize procP ⟨ws, L.length⟩ PSt.start = r at *
      unfold endX at h
      cases ho : r.2.over with
      | true => rw [ho, if_pos rfl] at h; cases h
      | false =>
        rw [ho, if_neg (by decide)] at h
        cases hb : (r.2.bad || decide (r.2.at_ < ws.length)) with
        | true => simp only [hb, if_true] at h; cases h
        | false =>
          simp only [Bool.or_eq_false_iff, decide_eq_false_iff_not] at hb
          exact ⟨rfl, by omega⟩
theorem procX_cut {L : List UInt8} {ws : List Wd} (h : (procX L).2.2 = 0) (hl : lexL L = .inr ws) {j : Nat} (hj : j < ws.length) {c : Nat} (hc : ∀ x, ws[j]? = some x → x.at_ = c) : c < L.length ∧ procX (L.take c) = (pr0, (c : Int), 12) := by
  obtain ⟨h8, ws2, hl2, ho, ha⟩ := procX_zero h
  rw [hl] at hl2
  cases hl2
  obtain ⟨hlt, hl3⟩ := lexL_cut hl hj hc
  have hlen : (L.take c).length = c := by rw [List.length_take]; omega
  have hlw : (ws.take j).length = j := by rw [List.length_take]; omega
  have hC : Cut2 ⟨ws, L.length⟩ ⟨ws.take j, (L.take c).length⟩ := ⟨fun i hi => by
    have hi : i < (ws.take j).length := hi
    rw [hlw] at hi
    have h1 : ws[i]? = some (ws[i]'(by omega)) := List.getElem?_eq_getElem _
    have h2 : (ws.take j)[i]? = some (ws[i]'(by omega)) := by rw [List.getElem?_take, if_pos hi]; exact h1
    have e1 : Wds.look ⟨ws, L.length⟩ i = ws[i]'(by omega) := look_in h1
    have e2 : Wds.look ⟨ws.take j, (L.take c).length⟩ i = ws[i]'(by omega) := look_in h2
    rw [e1, e2], by show (ws.take j).length ≤ ws.length; omega⟩
  obtain ⟨h1, h2, h3⟩ := proc_cut hC (by show (ws.take j).length < ws.length; omega) ho ha
  refine ⟨hlt, ?_⟩
  have e : procX (L.take c) = endX pr0 (rightB 9000) ⟨ws.take j, (L.take c).length⟩ (procP ⟨ws.take j, (L.take c).length⟩ PSt.start) := textX_inr (by omega) hl3
  rw [e]
  generalize procP ⟨ws.take j, (L.take c).length⟩ PSt.start = r at *
  unfold endX
  rw [if_neg (by rw [h1]; decide), h2, Bool.true_or, if_pos rfl, look_end (by rw [h3]; exact Nat.le_refl _)]
  show (pr0, ((L.take c).length : Int), (12 : Int)) = _
  rw [hlen]
theorem words_some {L : List UInt8} {base : Nat} {e : Ending} {w : World} (h : WordsSaid L base e w) : ∃ A n c a b, e = .returned (.tuple #[.slice A n c, .int .i64 a, .int .i64 b]) := by
  unfold WordsSaid at h
  split at h
  · exact ⟨_, _, _, _, _, h⟩
  · cases hl : lexL L with
    | inl a => rw [hl] at h; exact ⟨_, _, _, _, _, h⟩
    | inr ws => rw [hl] at h; obtain ⟨A, c, rfl, _⟩ := h; exact ⟨_, _, _, _, _, rfl⟩
theorem cut_index (k : Int) (n : Nat) (h2 : 2 ≤ n) (h8 : n ≤ 8000) : ∃ j : Nat, j < n ∧ wrap64 (1 + wrap64 ((IntKind.u64.wrap k).tmod ((n : Int) - 1))) = (j : Int) := by
  have hu : 0 ≤ IntKind.u64.wrap k := by simp [IntKind.wrap, IntKind.signed, IntKind.bits]; omega
  have h1 : 0 ≤ (IntKind.u64.wrap k).tmod ((n : Int) - 1) := Int.tmod_nonneg _ hu
  have h3 : (IntKind.u64.wrap k).tmod ((n : Int) - 1) < (n : Int) - 1 := Int.tmod_lt_of_pos _ (by omega)
  generalize (IntKind.u64.wrap k).tmod ((n : Int) - 1) = x at *
  refine ⟨(1 + x).toNat, by omega, ?_⟩
  have e1 : wrap64 x = x := by unfold wrap64; omega
  have e2 : wrap64 (1 + x) = 1 + x := by unfold wrap64; omega
  rw [e1, e2]
  omega
set_option maxRecDepth 100000 in
set_option maxHeartbeats 4000000 in
theorem parseCuts_walk (s : ByteArray) (k : Int) (w : World) : Calls Tryz.prog 4 #[.string s, .int .i64 k] w fun y w' => y = .returned (.bool true) ∧ Below w.heap.size w w' := by
  have Haw := Lib.hid awakeR_any
  have Hwd := Lib.hid (fun w => lexWords_any s w)
  have hp := parseProc_any s w
  by_cases he : (procX s.data.toList).2.2 = 0
  · obtain ⟨h8, ws, hl, _⟩ := procX_zero he
    have Hcut := Lib.hid (fun (j : Nat) (hj : j < ws.length) (c : Nat) (hc : ∀ x, ws[j]? = some x → x.at_ = c) => procX_cut he hl hj hc)
    have Hwd : Hid (∀ w, Calls Tryz.prog 10 #[.string s] w fun x w' => (∃ A c, x = .returned (.tuple #[.slice A ws.length c, .int .i64 0, .int .i64 0]) ∧ w'.ownsRow w.heap.size 36 4 (.slice A ws.length c) ws.length (ws.map wrow).flatten ∧ ws.length ≤ s.size) ∧ Below w.heap.size w w') := Lib.hid (fun w => (Hwd.out w).mono fun x w' ⟨h, hb⟩ => by
      unfold WordsSaid at h
      rw [if_neg h8, hl] at h
      obtain ⟨A, c, rfl, hown, _, hle⟩ := h
      rw [szl] at hle
      exact ⟨⟨A, c, rfl, hown, hle⟩, hb⟩)
    have h8s : s.size ≤ 8000 := by rw [szl] at h8; omega
    have hat := lexL_at s.data.toList
    rw [hl] at hat
    have Hat := Lib.hid hat
    clear hat
    generalize procX s.data.toList = q at *
    obtain ⟨p0, at_, er⟩ := q
    have he : er = 0 := he
    subst he
    have Hp := Lib.hid hp
    clear hp h8 hl
    go_enter Tryz.func4, Tryz.ntmps4
    go_wp2_with (fail)
    refine Hp.out.mono ?_
    rintro e w2 ⟨⟨row, rfl, hpr⟩, hb, _⟩
    obtain ⟨_, _, _, _, Ap, np, cp, Ab, nb, cb, rfl, _⟩ := hpr
    have hal := (Below.refl w2.heap.size w2).alloc (Nat.le_refl _) (.cells #[.string p0.name, .string p0.src, .string p0.part, .int .i64 p0.fuel, .slice Ap np cp, .slice Ab nb cb] 25)
    have Hb := Lib.hid (hb.trans (hal.mono hb.size))
    clear hb hal
    go_wp2_with (fail)
    refine (Hwd.out _).mono ?_
    rintro e w3 ⟨⟨A, c, rfl, hown, hle⟩, hb3⟩
    have Hb3 := Lib.hid (Hb.out.trans (hb3.mono Hb.out.size))
    have hr := RowsAt.of_own hown (wrow_len4 ws) (by simp)
    clear hb3 hown
    obtain ⟨n, Hn⟩ : ∃ n : Nat, Hid (n = ws.length) := ⟨_, rfl⟩
    rw [← Hn.out] at hr hle
    rw [← Hn.out]
    rcases Nat.lt_or_ge n 2 with h2 | h2
    · have hd : decide ((n : Int) < 2) = true := by simp; omega
      go_wp2_with (fail)
      refine (Haw.out _).mono ?_
      rintro e w4 ⟨rfl, hb4⟩
      have Hb4 := Lib.hid (Hb3.out.trans (hb4.mono Hb3.out.size))
      clear hb4
      go_wp2
      go_ret
      exact ⟨rfl, Hb4.out⟩
    · have hd : decide ((n : Int) < 2) = false := by simp; omega
      obtain ⟨j, hj, hjv⟩ := cut_index k n h2 (by omega)
      have hjw : ws[j]? = some (ws[j]'(by rw [← Hn.out]; exact hj)) := List.getElem?_eq_getElem _
      obtain ⟨b, o, rfl, hbl, hc⟩ := hr.at_ j (wrow (ws[j]'(by rw [← Hn.out]; exact hj))) (by rw [List.getElem?_map, hjw]; rfl)
      obtain ⟨cut, hcut, _⟩ := Hat.out _ (List.getElem_mem (by rw [← Hn.out]; exact hj : j < ws.length))
      have d3 := hc 3 (.int .i64 cut) (by rw [← hcut]; rfl)
      obtain ⟨hcl, hpx⟩ := Hcut.out j (by rw [← Hn.out]; exact hj) cut (fun x hx => by rw [hjw] at hx; cases hx; exact hcut)
      have hp2 := parseProc_any (s.extract 0 cut) w3
      rw [pre_list, hpx] at hp2
      rw [szl] at hcl
      have Hp2 := Lib.hid hp2
      clear hp2 hpx hc hr hjw
      have hd0 : (0 : Int) ≤ (j : Int) := by omega
      have hd1 : (j : Int) < (n : Int) := by omega
      go_wp2_with (fail)
      refine Hp2.out.mono ?_
      rintro e w4 ⟨⟨row, rfl, hpr⟩, hb4, _⟩
      obtain ⟨_, _, _, _, Ap2, np2, cp2, Ab2, nb2, cb2, rfl, _⟩ := hpr
      have hal4 := (Below.refl w4.heap.size w4).alloc (Nat.le_refl _) (.cells #[.string pr0.name, .string pr0.src, .string pr0.part, .int .i64 pr0.fuel, .slice Ap2 np2 cp2, .slice Ab2 nb2 cb2] 25)
      have Hb4 := Lib.hid (Hb3.out.trans ((hb4.trans (hal4.mono hb4.size)).mono Hb3.out.size))
      clear hb4 hal4
      go_wp2_with (fail)
      refine (Haw.out _).mono ?_
      rintro e w5 ⟨rfl, hb5⟩
      have Hb5 := Lib.hid (Hb4.out.trans (hb5.mono Hb4.out.size))
      clear hb5
      go_wp2
      go_ret
      exact ⟨rfl, Hb5.out⟩
  · generalize procX s.data.toList = q at *
    obtain ⟨p0, at_, er⟩ := q
    have he : er ≠ 0 := he
    have q0 : (er == 0) = false := by simpa using he
    have q1 : (er != 0) = true := by simpa using he
    have Hp := Lib.hid hp
    clear he hp
    go_enter Tryz.func4, Tryz.ntmps4
    go_wp2_with (fail)
    refine Hp.out.mono ?_
    rintro e w2 ⟨⟨row, rfl, hpr⟩, hb, _⟩
    obtain ⟨_, _, _, _, Ap, np, cp, Ab, nb, cb, rfl, _⟩ := hpr
    have hal := (Below.refl w2.heap.size w2).alloc (Nat.le_refl _) (.cells #[.string p0.name, .string p0.src, .string p0.part, .int .i64 p0.fuel, .slice Ap np cp, .slice Ab nb cb] 25)
    have Hb := Lib.hid (hb.trans (hal.mono hb.size))
    clear hb hal
    go_wp2_with (fail)
    refine (Hwd.out _).mono ?_
    rintro e w3 ⟨hws, hb3⟩
    obtain ⟨A, n, c, a, b, rfl⟩ := words_some hws
    have Hb3 := Lib.hid (Hb.out.trans (hb3.mono Hb.out.size))
    clear hb3 hws
    go_wp2_with (fail)
    refine (Haw.out _).mono ?_
    rintro e w4 ⟨rfl, hb4⟩
    have Hb4 := Lib.hid (Hb3.out.trans (hb4.mono Hb3.out.size))
    clear hb4
    go_wp2
    go_ret
    exact ⟨rfl, Hb4.out⟩
end Go.Proofs.YtlakeanldbdedaaGreat
