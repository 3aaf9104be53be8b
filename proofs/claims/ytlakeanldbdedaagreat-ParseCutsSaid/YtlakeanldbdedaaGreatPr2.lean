/- Parts of this proof, one behind the other: Tree. -/
import Derived.Test.YtlakeanldbdedaaGreatPr1
namespace Go.Afx
open Go.RowKit

/-- the blocks of F are as they were -/
structure Kept (F : Nat → Prop) (w w' : World) : Prop where
  size : w.heap.size ≤ w'.heap.size
  block : ∀ k, k < w.heap.size → F k → w'.heap[k]? = w.heap[k]?

section
variable {F F' S : Nat → Prop} {w w' w2 : World}
theorem Kept.refl (F : Nat → Prop) (w : World) : Kept F w w := ⟨Nat.le_refl _, fun _ _ _ => rfl⟩
theorem Kept.trans (h : Kept F w w') (k : Kept F w' w2) : Kept F w w2 :=
  ⟨Nat.le_trans h.size k.size, fun i hi hf => (k.block i (Nat.lt_of_lt_of_le hi h.size) hf).trans (h.block i hi hf)⟩
theorem Kept.of_below (h : Below w.heap.size w w') : Kept F w w' := ⟨h.size, fun i hi _ => h.block i hi⟩
theorem Kept.of_but (h : But S w w') (hd : ∀ k, F k → ¬ S k) : Kept F w w' := ⟨h.size, fun i hi hf => h.block i hi (hd i hf)⟩
theorem Kept.sub (h : Kept F' w w') (hF : ∀ k, F k → F' k) : Kept F w w' := ⟨h.size, fun i hi hf => h.block i hi (hF i hf)⟩
end

def okI (x : Int) : Prop := -9223372036854775808 ≤ x ∧ x ≤ 9223372036854775807
def okS (s : ByteArray) : Prop := s.size ≤ 9223372036854775807

/-- 'the slice .slice A n c reads as xs': each element's cells as P has it, all in blocks of F -/
def LsAt {α : Type} (F : Nat → Prop) (w : World) (sz : Nat) (P : List Value → α → Prop) (A : Option Addr) (n c : Nat) (xs : List α) : Prop :=
  ∃ rows, RowsAt w sz A n c rows ∧ (∀ a, A = some a → 0 < n → F a.block) ∧ rows.length = xs.length ∧ ∀ (k : Nat) (r : List Value) (x : α), rows[k]? = some r → xs[k]? = some x → r.length = sz ∧ P r x

section
variable {α : Type} {F F' : Nat → Prop} {w w' : World} {sz : Nat} {P P' : List Value → α → Prop} {A : Option Addr} {n c : Nat} {xs : List α}

theorem LsAt.len (h : LsAt F w sz P A n c xs) : xs.length = n := by obtain ⟨rows, hr, _, hl, _⟩ := h; rw [← hl, hr.len]
theorem LsAt.n_le (h : LsAt F w sz P A n c xs) : n ≤ 9223372036854775807 := by obtain ⟨rows, hr, _⟩ := h; exact hr.n_le
theorem LsAt.n_c (h : LsAt F w sz P A n c xs) : n ≤ c := by obtain ⟨rows, hr, _⟩ := h; exact hr.cap
theorem LsAt.c_le (h : LsAt F w sz P A n c xs) : c ≤ 9223372036854775807 := by obtain ⟨rows, hr, _⟩ := h; have := hr.max; unfold maxLen at this; omega
theorem LsAt.nil_ (F : Nat → Prop) (w : World) (sz : Nat) (P : List Value → α → Prop) : LsAt F w sz P none 0 0 [] :=
  ⟨[], RowsAt.nil_ w sz, (fun a h => by cases h), rfl, (fun k r x h => by simp at h)⟩

theorem LsAt.get (h : LsAt F w sz P A n c xs) {k : Nat} (hk : k < n) :
    ∃ b o r x, A = some ⟨b, o, none⟩ ∧ b < w.heap.size ∧ F b ∧ xs[k]? = some x ∧ r.length = sz ∧ P r x ∧ ∀ j u, r[j]? = some u → w.cell? ⟨b, o + k * sz + j, none⟩ = some u := by
  obtain ⟨rows, hr, hF, hl, hp⟩ := h
  have hkr : k < rows.length := by rw [hr.len]; exact hk
  obtain ⟨b, o, rfl, hb, hc⟩ := hr.at_ k _ (List.getElem?_eq_getElem hkr)
  obtain ⟨h1, h2⟩ := hp k _ (xs[k]'(by omega)) (List.getElem?_eq_getElem hkr) (List.getElem?_eq_getElem _)
  exact ⟨b, o, rows[k], xs[k]'(by omega), rfl, hb, hF ⟨b, o, none⟩ rfl (by omega), List.getElem?_eq_getElem _, h1, h2, hc⟩

theorem LsAt.conv (h : LsAt F w sz P A n c xs) (hk : Kept F w w') (hF : ∀ a, A = some a → 0 < n → F a.block → F' a.block) (hP : ∀ r x, x ∈ xs → P r x → P' r x) : LsAt F' w' sz P' A n c xs := by
  obtain ⟨rows, hr, hF1, hl, hp⟩ := h
  refine ⟨rows, ⟨hr.len, hr.cap, hr.max, fun k row hrow => ?_⟩, fun a ha h0 => hF a ha h0 (hF1 a ha h0), hl, fun k r x h1 h2 => ⟨(hp k r x h1 h2).1, hP r x (List.mem_of_getElem? h2) (hp k r x h1 h2).2⟩⟩
  obtain ⟨b, o, rfl, hb, hc⟩ := hr.at_ k row hrow
  have h0 : 0 < n := by have h1 := (List.getElem?_eq_some_iff.1 hrow).1; have h2 := hr.len; omega
  have hfb : F b := hF1 ⟨b, o, none⟩ rfl h0
  exact ⟨b, o, rfl, Nat.lt_of_lt_of_le hb hk.size, fun j u hu => (World.cell?_of_block (a := ⟨b, o + k * sz + j, none⟩) (hk.block b hb hfb)).trans (hc j u hu)⟩
theorem LsAt.kept (h : LsAt F w sz P A n c xs) (hk : Kept F w w') : LsAt F w' sz P A n c xs := h.conv hk (fun _ _ _ h => h) fun _ _ _ h => h
theorem LsAt.below (h : LsAt F w sz P A n c xs) (hb : Below w.heap.size w w') : LsAt F w' sz P A n c xs := h.kept (Kept.of_below hb)
theorem LsAt.drewN (h : LsAt F w sz P A n c xs) (k : Nat) : LsAt F (w.drewN k) sz P A n c xs := h.below (below_drewN (Below.refl _ _) k)
theorem LsAt.lt (h : LsAt F w sz P A n c xs) (h0 : 0 < n) : ∀ a, A = some a → a.block < w.heap.size := by
  intro a ha
  obtain ⟨b, o, r, x, hA, hb, _⟩ := h.get h0
  rw [hA] at ha
  injection ha with ha
  subst ha
  exact hb
end

def IRow (r : List Value) (x : Int) : Prop := r = [.int .i64 x] ∧ okI x
def SRow (r : List Value) (s : ByteArray) : Prop := r = [.string s] ∧ okS s

/-- an expression -/
inductive Ex where
  | mk (op n : Int) (s name src : ByteArray) (args : List Ex)
def Ex.op : Ex → Int | .mk o _ _ _ _ _ => o
def Ex.n : Ex → Int | .mk _ n _ _ _ _ => n
def Ex.s : Ex → ByteArray | .mk _ _ s _ _ _ => s
def Ex.name : Ex → ByteArray | .mk _ _ _ n _ _ => n
def Ex.src : Ex → ByteArray | .mk _ _ _ _ s _ => s
def Ex.args : Ex → List Ex | .mk _ _ _ _ _ l => l
theorem Ex.eta (e : Ex) : e = .mk e.op e.n e.s e.name e.src e.args := by cases e; rfl
theorem Ex.ext {a b : Ex} (h1 : a.op = b.op) (h2 : a.n = b.n) (h3 : a.s = b.s) (h4 : a.name = b.name) (h5 : a.src = b.src) (h6 : a.args = b.args) : a = b := by
  rw [a.eta, b.eta, h1, h2, h3, h4, h5, h6]

/-- 'these six cells are the expression e', of a depth of at most d -/
def ExAt (F : Nat → Prop) : Nat → World → List Value → Ex → Prop
  | 0, _, _, _ => False
  | d + 1, w, r, e => okI e.op ∧ okI e.n ∧ okS e.s ∧ okS e.name ∧ okS e.src ∧
      ∃ A m c, r = [.int .i64 e.op, .int .i64 e.n, .string e.s, .string e.name, .string e.src, .slice A m c] ∧ LsAt F w 6 (ExAt F d w) A m c e.args

theorem ExAt.conv {F F' : Nat → Prop} (hF : ∀ k, F k → F' k) {w w' : World} (hk : Kept F w w') : ∀ (d : Nat) {d' : Nat} {r : List Value} {e : Ex}, d ≤ d' → ExAt F d w r e → ExAt F' d' w' r e := by
  intro d
  induction d with
  | zero => intro d' r e _ h; exact h.elim
  | succ d ih =>
    intro d' r e hd h
    obtain ⟨d', rfl⟩ : ∃ k, d' = k + 1 := ⟨d' - 1, by omega⟩
    obtain ⟨h1, h2, h3, h4, h5, A, m, c, hr, hl⟩ := h
    exact ⟨h1, h2, h3, h4, h5, A, m, c, hr, hl.conv hk (fun a _ _ h => hF _ h) fun r x _ hx => ih (by omega) hx⟩
theorem ExAt.kept {F : Nat → Prop} {w w' : World} {d : Nat} {r : List Value} {e : Ex} (h : ExAt F d w r e) (hk : Kept F w w') : ExAt F d w' r e := ExAt.conv (fun _ h => h) hk d (Nat.le_refl _) h
theorem ExAt.below {F : Nat → Prop} {w w' : World} {d : Nat} {r : List Value} {e : Ex} (h : ExAt F d w r e) (hb : Below w.heap.size w w') : ExAt F d w' r e := h.kept (Kept.of_below hb)
theorem ExAt.len {F : Nat → Prop} {w : World} {d : Nat} {r : List Value} {e : Ex} (h : ExAt F d w r e) : r.length = 6 := by
  cases d with
  | zero => exact h.elim
  | succ d => obtain ⟨_, _, _, _, _, A, m, c, rfl, _⟩ := h; rfl
theorem ExAt.one {F : Nat → Prop} {w : World} {d : Nat} {r : List Value} {e : Ex} (h : ExAt F d w r e) : ∀ u ∈ r, u.oneCell' = true := by
  cases d with
  | zero => exact h.elim
  | succ d =>
    obtain ⟨_, _, _, _, _, A, m, c, rfl, _⟩ := h
    intro u hu
    simp only [List.mem_cons, List.not_mem_nil, or_false] at hu
    rcases hu with rfl | rfl | rfl | rfl | rfl | rfl <;> rfl

/-- 'the slice reads as these expressions' -/
def ExsAt (F : Nat → Prop) (d : Nat) (w : World) (A : Option Addr) (n c : Nat) (es : List Ex) : Prop := LsAt F w 6 (ExAt F d w) A n c es
theorem ExsAt.conv {F F' : Nat → Prop} (hF : ∀ k, F k → F' k) {w w' : World} (hk : Kept F w w') {d d' : Nat} (hd : d ≤ d') {A : Option Addr} {n c : Nat} {es : List Ex} (h : ExsAt F d w A n c es) : ExsAt F' d' w' A n c es :=
  LsAt.conv h hk (fun _ _ _ h => hF _ h) fun _ _ _ hx => ExAt.conv hF hk d hd hx
theorem ExsAt.kept {F : Nat → Prop} {w w' : World} {d : Nat} {A : Option Addr} {n c : Nat} {es : List Ex} (h : ExsAt F d w A n c es) (hk : Kept F w w') : ExsAt F d w' A n c es := ExsAt.conv (fun _ h => h) hk (Nat.le_refl _) h
theorem ExsAt.below {F : Nat → Prop} {w w' : World} {d : Nat} {A : Option Addr} {n c : Nat} {es : List Ex} (h : ExsAt F d w A n c es) (hb : Below w.heap.size w w') : ExsAt F d w' A n c es := h.kept (Kept.of_below hb)

theorem ExAt.open_ {F : Nat → Prop} {d : Nat} {w : World} {r : List Value} {e : Ex} (h : ExAt F (d + 1) w r e) : okI e.op ∧ okI e.n ∧ okS e.s ∧ okS e.name ∧ okS e.src ∧
    ∃ A m c, r = [.int .i64 e.op, .int .i64 e.n, .string e.s, .string e.name, .string e.src, .slice A m c] ∧ ExsAt F d w A m c e.args := h

/-- an element of a list of expressions, its cells -/
theorem ExsAt.get {F : Nat → Prop} {d : Nat} {w : World} {A : Option Addr} {n c : Nat} {es : List Ex} (h : ExsAt F (d + 1) w A n c es) {k : Nat} (hk : k < n) :
    ∃ b o e A2 m2 c2, A = some ⟨b, o, none⟩ ∧ b < w.heap.size ∧ es[k]? = some e ∧ w.cell? ⟨b, o + k * 6, none⟩ = some (.int .i64 e.op) ∧ w.cell? ⟨b, o + k * 6 + 1, none⟩ = some (.int .i64 e.n) ∧
      w.cell? ⟨b, o + k * 6 + 2, none⟩ = some (.string e.s) ∧ w.cell? ⟨b, o + k * 6 + 3, none⟩ = some (.string e.name) ∧ w.cell? ⟨b, o + k * 6 + 4, none⟩ = some (.string e.src) ∧ w.cell? ⟨b, o + k * 6 + 5, none⟩ = some (.slice A2 m2 c2) ∧
      ExAt F (d + 1) w [.int .i64 e.op, .int .i64 e.n, .string e.s, .string e.name, .string e.src, .slice A2 m2 c2] e ∧ okI e.op ∧ okI e.n ∧ okS e.s ∧ okS e.name ∧ okS e.src := by
  obtain ⟨b, o, r, e, hA, hb, _, he, hl, hp, hc⟩ := LsAt.get h hk
  obtain ⟨h1, h2, h3, h4, h5, A2, m2, c2, rfl, h6⟩ := hp
  exact ⟨b, o, e, A2, m2, c2, hA, hb, he, by simpa using hc 0 _ rfl, hc 1 _ rfl, hc 2 _ rfl, hc 3 _ rfl, hc 4 _ rfl, hc 5 _ rfl, ⟨h1, h2, h3, h4, h5, A2, m2, c2, rfl, h6⟩, h1, h2, h3, h4, h5⟩

/-- a statement -/
inductive St where
  | mk (op : Int) (name src : ByteArray) (n : Int) (cols : List ByteArray) (exprs : List Ex) (body els : List St)
def St.op : St → Int | .mk o _ _ _ _ _ _ _ => o
def St.name : St → ByteArray | .mk _ n _ _ _ _ _ _ => n
def St.src : St → ByteArray | .mk _ _ s _ _ _ _ _ => s
def St.n : St → Int | .mk _ _ _ n _ _ _ _ => n
def St.cols : St → List ByteArray | .mk _ _ _ _ c _ _ _ => c
def St.exprs : St → List Ex | .mk _ _ _ _ _ e _ _ => e
def St.body : St → List St | .mk _ _ _ _ _ _ b _ => b
def St.els : St → List St | .mk _ _ _ _ _ _ _ b => b
theorem St.eta (e : St) : e = .mk e.op e.name e.src e.n e.cols e.exprs e.body e.els := by cases e; rfl

/-- 'these eight cells are the statement x', of a depth of at most d -/
def StAt (F : Nat → Prop) : Nat → World → List Value → St → Prop
  | 0, _, _, _ => False
  | d + 1, w, r, x => okI x.op ∧ okI x.n ∧ okS x.name ∧ okS x.src ∧
      ∃ Ac nc cc Ae ne ce Ab nb cb Al nl cl, r = [.int .i64 x.op, .string x.name, .string x.src, .int .i64 x.n, .slice Ac nc cc, .slice Ae ne ce, .slice Ab nb cb, .slice Al nl cl] ∧
        LsAt F w 1 SRow Ac nc cc x.cols ∧ ExsAt F d w Ae ne ce x.exprs ∧ LsAt F w 8 (StAt F d w) Ab nb cb x.body ∧ LsAt F w 8 (StAt F d w) Al nl cl x.els

theorem StAt.conv {F F' : Nat → Prop} (hF : ∀ k, F k → F' k) {w w' : World} (hk : Kept F w w') : ∀ (d : Nat) {d' : Nat} {r : List Value} {e : St}, d ≤ d' → StAt F d w r e → StAt F' d' w' r e := by
  intro d
  induction d with
  | zero => intro d' r e _ h; exact h.elim
  | succ d ih =>
    intro d' r e hd h
    obtain ⟨d', rfl⟩ : ∃ k, d' = k + 1 := ⟨d' - 1, by omega⟩
    obtain ⟨h1, h2, h3, h4, Ac, nc, cc, Ae, ne, ce, Ab, nb, cb, Al, nl, cl, hr, k1, k2, k3, k4⟩ := h
    exact ⟨h1, h2, h3, h4, Ac, nc, cc, Ae, ne, ce, Ab, nb, cb, Al, nl, cl, hr, k1.conv hk (fun _ _ _ h => hF _ h) (fun _ _ _ h => h), ExsAt.conv hF hk (by omega) k2,
      k3.conv hk (fun _ _ _ h => hF _ h) (fun _ _ _ hx => ih (by omega) hx), k4.conv hk (fun _ _ _ h => hF _ h) (fun _ _ _ hx => ih (by omega) hx)⟩
theorem StAt.kept {F : Nat → Prop} {w w' : World} {d : Nat} {r : List Value} {e : St} (h : StAt F d w r e) (hk : Kept F w w') : StAt F d w' r e := StAt.conv (fun _ h => h) hk d (Nat.le_refl _) h
theorem StAt.below {F : Nat → Prop} {w w' : World} {d : Nat} {r : List Value} {e : St} (h : StAt F d w r e) (hb : Below w.heap.size w w') : StAt F d w' r e := h.kept (Kept.of_below hb)
theorem StAt.len {F : Nat → Prop} {w : World} {d : Nat} {r : List Value} {e : St} (h : StAt F d w r e) : r.length = 8 := by
  cases d with
  | zero => exact h.elim
  | succ d => obtain ⟨_, _, _, _, Ac, nc, cc, Ae, ne, ce, Ab, nb, cb, Al, nl, cl, rfl, _⟩ := h; rfl
theorem StAt.one {F : Nat → Prop} {w : World} {d : Nat} {r : List Value} {e : St} (h : StAt F d w r e) : ∀ u ∈ r, u.oneCell' = true := by
  cases d with
  | zero => exact h.elim
  | succ d =>
    obtain ⟨_, _, _, _, Ac, nc, cc, Ae, ne, ce, Ab, nb, cb, Al, nl, cl, rfl, _⟩ := h
    intro u hu
    simp only [List.mem_cons, List.not_mem_nil, or_false] at hu
    rcases hu with rfl | rfl | rfl | rfl | rfl | rfl | rfl | rfl <;> rfl

def StsAt (F : Nat → Prop) (d : Nat) (w : World) (A : Option Addr) (n c : Nat) (es : List St) : Prop := LsAt F w 8 (StAt F d w) A n c es
theorem StsAt.conv {F F' : Nat → Prop} (hF : ∀ k, F k → F' k) {w w' : World} (hk : Kept F w w') {d d' : Nat} (hd : d ≤ d') {A : Option Addr} {n c : Nat} {es : List St} (h : StsAt F d w A n c es) : StsAt F' d' w' A n c es :=
  LsAt.conv h hk (fun _ _ _ h => hF _ h) fun _ _ _ hx => StAt.conv hF hk d hd hx
theorem StsAt.kept {F : Nat → Prop} {w w' : World} {d : Nat} {A : Option Addr} {n c : Nat} {es : List St} (h : StsAt F d w A n c es) (hk : Kept F w w') : StsAt F d w' A n c es := StsAt.conv (fun _ h => h) hk (Nat.le_refl _) h
theorem StsAt.below {F : Nat → Prop} {w w' : World} {d : Nat} {A : Option Addr} {n c : Nat} {es : List St} (h : StsAt F d w A n c es) (hb : Below w.heap.size w w') : StsAt F d w' A n c es := h.kept (Kept.of_below hb)

theorem StAt.open_ {F : Nat → Prop} {d : Nat} {w : World} {r : List Value} {x : St} (h : StAt F (d + 1) w r x) : okI x.op ∧ okI x.n ∧ okS x.name ∧ okS x.src ∧
    ∃ Ac nc cc Ae ne ce Ab nb cb Al nl cl, r = [.int .i64 x.op, .string x.name, .string x.src, .int .i64 x.n, .slice Ac nc cc, .slice Ae ne ce, .slice Ab nb cb, .slice Al nl cl] ∧
      LsAt F w 1 SRow Ac nc cc x.cols ∧ ExsAt F d w Ae ne ce x.exprs ∧ StsAt F d w Ab nb cb x.body ∧ StsAt F d w Al nl cl x.els := h

theorem StsAt.get {F : Nat → Prop} {d : Nat} {w : World} {A : Option Addr} {n c : Nat} {es : List St} (h : StsAt F (d + 1) w A n c es) {k : Nat} (hk : k < n) :
    ∃ b o x Ac nc cc Ae ne ce Ab nb cb Al nl cl, A = some ⟨b, o, none⟩ ∧ b < w.heap.size ∧ es[k]? = some x ∧ w.cell? ⟨b, o + k * 8, none⟩ = some (.int .i64 x.op) ∧ w.cell? ⟨b, o + k * 8 + 1, none⟩ = some (.string x.name) ∧
      w.cell? ⟨b, o + k * 8 + 2, none⟩ = some (.string x.src) ∧ w.cell? ⟨b, o + k * 8 + 3, none⟩ = some (.int .i64 x.n) ∧ w.cell? ⟨b, o + k * 8 + 4, none⟩ = some (.slice Ac nc cc) ∧ w.cell? ⟨b, o + k * 8 + 5, none⟩ = some (.slice Ae ne ce) ∧
      w.cell? ⟨b, o + k * 8 + 6, none⟩ = some (.slice Ab nb cb) ∧ w.cell? ⟨b, o + k * 8 + 7, none⟩ = some (.slice Al nl cl) ∧
      StAt F (d + 1) w [.int .i64 x.op, .string x.name, .string x.src, .int .i64 x.n, .slice Ac nc cc, .slice Ae ne ce, .slice Ab nb cb, .slice Al nl cl] x ∧
      okI x.op ∧ okI x.n ∧ okS x.name ∧ okS x.src ∧ LsAt F w 1 SRow Ac nc cc x.cols ∧ ExsAt F d w Ae ne ce x.exprs ∧ StsAt F d w Ab nb cb x.body ∧ StsAt F d w Al nl cl x.els := by
  obtain ⟨b, o, r, x, hA, hb, _, he, hl, hp, hc⟩ := LsAt.get h hk
  have hp' := hp
  obtain ⟨h1, h2, h3, h4, Ac, nc, cc, Ae, ne, ce, Ab, nb, cb, Al, nl, cl, rfl, k1, k2, k3, k4⟩ := hp
  exact ⟨b, o, x, Ac, nc, cc, Ae, ne, ce, Ab, nb, cb, Al, nl, cl, hA, hb, he, by simpa using hc 0 _ rfl, hc 1 _ rfl, hc 2 _ rfl, hc 3 _ rfl, hc 4 _ rfl, hc 5 _ rfl, hc 6 _ rfl, hc 7 _ rfl, hp', h1, h2, h3, h4, k1, k2, k3, k4⟩
end Go.Afx
