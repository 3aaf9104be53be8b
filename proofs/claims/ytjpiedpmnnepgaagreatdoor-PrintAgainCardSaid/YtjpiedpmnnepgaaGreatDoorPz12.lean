/- Parts of this proof, one behind the other: PrsO, PrsL, PrsA. -/
import Derived.Test.YtjpiedpmnnepgaaGreatDoorPz11
import Derived.Test.YtjpiedpmnnepgaaGreatDoorPz2
import Derived.Test.YtjpiedpmnnepgaaGreatDoorPz10
set_option maxRecDepth 1000000
set_option maxHeartbeats 40000000
namespace Go.Proofs.YtjpiedpmnnepgaaGreatDoor
open Go.RowKit Go.Afx
theorem seps_len {l : List (List UInt8)} {b : List UInt8 → Nat} (h : ∀ x ∈ l, x.length ≤ b x) : (sepsT l).length ≤ (l.map fun x => b x + 2).sum := by
 induction l with
 | nil => simp [sepsT]
 | cons a r ih =>
  have h1 := h a (by simp)
  have h2 := ih fun x hx => h x (by simp [hx])
  unfold sepsT at *
  rw [List.flatMap_cons, List.length_append, List.map_cons, List.sum_cons]
  simp only [List.length_append, List.length_cons, List.length_nil]
  omega
theorem joinT_len (l : List (List UInt8)) : (joinT l).length ≤ (l.map fun x => x.length + 2).sum := by
 cases l with
 | nil => simp [joinT]
 | cons a r =>
  have := seps_len (l := r) (b := List.length) (fun x _ => Nat.le_refl _)
  simp only [joinT, List.length_append, List.map_cons, List.sum_cons]
  omega
theorem join_exprs {F : Nat → Prop} {w : World} {d n c : Nat} {A : Option Addr} {es : List Ex} (h : ExsAt F d w A n c es) (hb : ∀ e ∈ es, builtE d e = true) : (joinT (es.map (txtE d))).length ≤ 502 * (es.map (cntE d)).sum := by
 refine Nat.le_trans (joinT_len _) ?_
 have hall : ∀ e ∈ es, (txtE d e).length ≤ 500 * cntE d e := fun e he => by
  obtain ⟨k, hk⟩ := List.mem_iff_getElem?.1 he
  obtain ⟨hk2, _⟩ := List.getElem?_eq_some_iff.1 hk
  obtain ⟨b, o, r, x, _, _, _, hx, _, hp, _⟩ := LsAt.get h (by rw [LsAt.len h] at hk2; exact hk2)
  rw [hk] at hx
  injection hx with hx
  subst hx
  exact txt_len d e r hp (hb e he)
 have hpos : ∀ e ∈ es, 1 ≤ cntE d e := fun e he => by
  have := hb e he
  cases d with
  | zero => cases this
  | succ d => rw [cntE]; omega
 clear h hb
 induction es with
 | nil => simp
 | cons a r ih =>
  have h1 := hall a (by simp)
  have h2 := hpos a (by simp)
  have h3 := ih (fun e he => hall e (by simp [he])) fun e he => hpos e (by simp [he])
  simp only [List.map_cons, List.sum_cons] at h3 ⊢
  omega
theorem noS_len {s : ByteArray} (h : noS s = true) : s.data.toList.length ≤ 16 := by
 unfold noS at h
 have := of_decide_eq_true h
 subst this
 decide
theorem opt_len {b : Bool} {s : ByteArray} (h : (if b then freeB s else noS s) = true) : s.data.toList.length ≤ 16 := by
 cases b
 ·exact noS_len h
 ·exact named_len h
theorem shapeP_gives {hn hc hnum hb ho hs : Bool} {least most : Int} {name src : ByteArray} {n : Int} {cols : List ByteArray} {ne nb nl : Nat} (h : shapeP hn hc hnum hb ho hs least most name src n cols ne nb nl = true) :
  name.data.toList.length ≤ 16 ∧ src.data.toList.length ≤ 16 ∧ cols.length ≤ 8 ∧ (∀ c ∈ cols, c.data.toList.length ≤ 16) ∧ least ≤ (ne : Int) ∧ (ne : Int) ≤ most ∧ 0 ≤ n ∧ n ≤ 1000 ∧ (hb = false → nb = 0) ∧ (ho = false → nl = 0) ∧ (hc = true → 1 ≤ cols.length) := by
 unfold shapeP at h
 simp only [Bool.and_eq_true, decide_eq_true_eq, Bool.or_eq_true] at h
 obtain ⟨⟨⟨⟨⟨⟨h1, h2⟩, h3⟩, h4⟩, h5⟩, h6⟩, h7⟩ := h
 have hcols : cols.length ≤ 8 ∧ (∀ c ∈ cols, c.data.toList.length ≤ 16) ∧ (hc = true → 1 ≤ cols.length) := by
  cases hc
  ·simp at h3
   subst h3
   simp
  ·simp only [if_true, Bool.and_eq_true, decide_eq_true_eq] at h3
   obtain ⟨⟨⟨a1, a2⟩, a3⟩, _⟩ := h3
   rw [freesB_all, List.all_eq_true] at a3
   exact ⟨a2, fun c hc => named_len (a3 c hc), fun _ => a1⟩
 have hnn : 0 ≤ n ∧ n ≤ 1000 := by
  cases hnum
  ·simp at h4; omega
  ·simp at h4; omega
 exact ⟨opt_len h1, opt_len h2, hcols.1, hcols.2.1, h5.1, h5.2, hnn.1, hnn.2, fun e => by rcases h6 with h6 | h6 <;> simp_all, fun e => by rcases h7 with h7 | h7 <;> simp_all, hcols.2.2⟩
structure ShapeG (op : Int) (name src : ByteArray) (n : Int) (cols : List ByteArray) (ne nb nl : Nat) : Prop where
 ops : op = 1 ∨ op = 2 ∨ op = 3 ∨ op = 4 ∨ op = 5 ∨ op = 6 ∨ op = 7 ∨ op = 8 ∨ op = 9 ∨ op = 10
 name_ : name.data.toList.length ≤ 16
 src_ : src.data.toList.length ≤ 16
 cols8 : cols.length ≤ 8
 cols_ : ∀ c ∈ cols, c.data.toList.length ≤ 16
 one : 1 ≤ ne
 nine : ne ≤ 9
 only : op = 1 ∨ op = 2 ∨ op = 5 ∨ op = 6 ∨ op = 7 ∨ op = 9 → ne = 1
 four : op = 4 → ne = cols.length + 1 ∧ 1 ≤ cols.length
 n0 : 0 ≤ n
 n1 : n ≤ 1000
 body : op ≠ 6 → op ≠ 7 → nb = 0
 els : op ≠ 7 → nl = 0
theorem shape_gives {op : Int} {name src : ByteArray} {n : Int} {cols : List ByteArray} {ne nb nl : Nat} (h : shapeR op name src n cols ne nb nl = true) : ShapeG op name src n cols ne nb nl := by
 unfold shapeR at h
 split at h
 ·rename_i ho
  obtain ⟨a, b, c, d, e, f, g, i, j, k, _⟩ := shapeP_gives h
  exact ⟨by omega, a, b, c, d, by omega, by omega, fun _ => by omega, fun _ => by omega, g, i, fun _ _ => j rfl, fun _ => k rfl⟩
 split at h
 ·rename_i ho
  obtain ⟨a, b, c, d, e, f, g, i, j, k, _⟩ := shapeP_gives h
  exact ⟨by omega, a, b, c, d, by omega, by omega, fun _ => by omega, fun _ => by omega, g, i, fun _ _ => j rfl, fun _ => k rfl⟩
 split at h
 ·rename_i ho
  obtain ⟨a, b, c, d, e, f, g, i, j, k, l⟩ := shapeP_gives h
  exact ⟨by omega, a, b, c, d, by omega, by omega, fun _ => by omega, fun _ => ⟨by omega, l rfl⟩, g, i, fun _ _ => j rfl, fun _ => k rfl⟩
 split at h
 ·rename_i ho
  obtain ⟨a, b, c, d, e, f, g, i, j, k, _⟩ := shapeP_gives h
  exact ⟨by omega, a, b, c, d, by omega, by omega, fun _ => by omega, fun _ => by omega, g, i, fun _ _ => j rfl, fun _ => k rfl⟩
 split at h
 ·rename_i ho
  obtain ⟨a, b, c, d, e, f, g, i, j, k, _⟩ := shapeP_gives h
  exact ⟨by omega, a, b, c, d, by omega, by omega, fun _ => by omega, fun _ => by omega, g, i, fun h6 => absurd ho h6, fun _ => k rfl⟩
 split at h
 ·rename_i ho
  obtain ⟨a, b, c, d, e, f, g, i, j, k, _⟩ := shapeP_gives h
  exact ⟨by omega, a, b, c, d, by omega, by omega, fun _ => by omega, fun _ => by omega, g, i, fun _ h7 => absurd ho h7, fun h7 => absurd ho h7⟩
 split at h
 ·rename_i ho
  obtain ⟨a, b, c, d, e, f, g, i, j, k, _⟩ := shapeP_gives h
  exact ⟨by omega, a, b, c, d, by omega, by omega, fun _ => by omega, fun _ => by omega, g, i, fun _ _ => j rfl, fun _ => k rfl⟩
 split at h
 ·rename_i ho
  obtain ⟨a, b, c, d, e, f, g, i, j, k, _⟩ := shapeP_gives h
  exact ⟨by omega, a, b, c, d, by omega, by omega, fun _ => by omega, fun _ => by omega, g, i, fun _ _ => j rfl, fun _ => k rfl⟩
 ·cases h
theorem builtS_parts {d : Nat} {op : Int} {name src : ByteArray} {n : Int} {cols : List ByteArray} {exprs : List Ex} {body els : List St} (h : builtS (d + 1) (.mk op name src n cols exprs body els) = true) :
  ShapeG op name src n cols exprs.length body.length els.length ∧ (∀ e ∈ exprs, builtE d e = true) ∧ (∀ x ∈ body, builtS d x = true) ∧ (∀ x ∈ els, builtS d x = true) := by
 rw [builtS] at h
 simp only [Bool.and_eq_true, List.all_eq_true] at h
 exact ⟨shape_gives h.1.1.1, h.1.1.2, h.1.2, h.2⟩
theorem txtS_op {d k : Nat} {op : Int} {name src : ByteArray} {n : Int} {cols : List ByteArray} {exprs : List Ex} {body els : List St} : txtS (d + 1) k (.mk op name src n cols exprs body els) =
  (if op = 6 then [102, 111, 114, 32] ++ rowsX d name src exprs ++ (if 0 < n then [32, 108, 105, 109, 105, 116, 32] ++ decS n else []) ++ [32] ++ blockT (txtS d) k body
  else if op = 7 then [105, 102, 32] ++ firstT d exprs ++ [32] ++ blockT (txtS d) k body ++ (if els = [] then [] else [32, 101, 108, 115, 101, 32] ++ blockT (txtS d) k els)
  else plainT d op name src cols exprs ++ [59]) := by rw [txtS]; rfl
theorem cntS_op {d : Nat} {op : Int} {name src : ByteArray} {n : Int} {cols : List ByteArray} {exprs : List Ex} {body els : List St} : cntS (d + 1) (.mk op name src n cols exprs body els) = 1 + (exprs.map (cntE d)).sum + (body.map (cntS d)).sum + (els.map (cntS d)).sum := by rw [cntS]; rfl
theorem blockT_len {f : Nat → St → List UInt8} {k K C : Nat} {g : St → Nat} {l : List St} (hk : k + 1 ≤ K) (h : ∀ x ∈ l, (f (k + 1) x).length + 2 * K + 1 ≤ C * g x) : (blockT f k l).length ≤ 4 + 2 * K + C * (l.map g).sum := by
 unfold blockT
 split
 ·simp; omega
 ·have hs : (l.flatMap fun x => indT (k + 1) ++ f (k + 1) x ++ [10]).length ≤ C * (l.map g).sum := by
   rename_i h0
   clear h0
   induction l with
   | nil => simp
   | cons a r ih =>
    have h1 := h a (by simp)
    have h2 := ih fun x hx => h x (by simp [hx])
    rw [List.flatMap_cons, List.length_append, List.map_cons, List.sum_cons, Nat.mul_add]
    simp only [List.length_append, List.length_cons, List.length_nil, indT, List.length_replicate] at *
    omega
  simp only [List.length_append, List.length_cons, List.length_nil, indT, List.length_replicate] at *
  omega
theorem ls_each {α : Type} {F : Nat → Prop} {w : World} {sz : Nat} {P : List Value → α → Prop} {A : Option Addr} {n c : Nat} {xs : List α} (h : LsAt F w sz P A n c xs) : ∀ x ∈ xs, ∃ r, P r x := by
 intro x hx
 obtain ⟨k, hk⟩ := List.mem_iff_getElem?.1 hx
 obtain ⟨hk2, _⟩ := List.getElem?_eq_some_iff.1 hk
 obtain ⟨b, o, r, y, _, _, _, hy, _, hp, _⟩ := h.get (by rw [LsAt.len h] at hk2; exact hk2)
 rw [hk] at hy
 injection hy with hy
 subst hy
 exact ⟨r, hp⟩
theorem rowsX_len {F : Nat → Prop} {w : World} {d : Nat} {name src : ByteArray} {es : List Ex} (hn : name.data.toList.length ≤ 16) (hs : src.data.toList.length ≤ 16) (hx : ∀ e ∈ es, ∃ r, ExAt F d w r e) (hb : ∀ e ∈ es, builtE d e = true) : (rowsX d name src es).length + 500 * (es.tail.map (cntE d)).sum ≤ 43 + 500 * (es.map (cntE d)).sum := by
 cases es with
 | nil => simp [rowsX]
 | cons a r =>
  obtain ⟨row, h1⟩ := hx a (by simp)
  have h2 := txt_len d a row h1 (hb a (by simp))
  have h3 := whereT_len a.op a.n (txtE d a)
  simp only [rowsX, rowsT, List.length_append, List.length_cons, List.length_nil, List.map_cons, List.sum_cons, List.tail_cons]
  omega
theorem firstT_len {F : Nat → Prop} {w : World} {d : Nat} {es : List Ex} (hx : ∀ e ∈ es, ∃ r, ExAt F d w r e) (hb : ∀ e ∈ es, builtE d e = true) : (firstT d es).length ≤ 500 * (es.map (cntE d)).sum := by
 cases es with
 | nil => simp [firstT]
 | cons a r =>
  obtain ⟨row, h1⟩ := hx a (by simp)
  have h2 := txt_len d a row h1 (hb a (by simp))
  simp only [firstT, List.map_cons, List.sum_cons]
  omega
theorem setsT_len {F : Nat → Prop} {w : World} {d : Nat} : ∀ {cols : List ByteArray} {es : List Ex}, (∀ c ∈ cols, c.data.toList.length ≤ 16) → (∀ e ∈ es, ∃ r, ExAt F d w r e) → (∀ e ∈ es, builtE d e = true) → (joinT (setsT d cols es)).length ≤ 21 * cols.length + 500 * (es.map (cntE d)).sum := by
 intro cols es hc hx hb
 refine Nat.le_trans (joinT_len _) ?_
 induction cols generalizing es with
 | nil => simp [setsT]
 | cons c cs ih =>
  cases es with
  | nil => simp [setsT]
  | cons e es =>
   have h1 := hc c (by simp)
   obtain ⟨row, h2⟩ := hx e (by simp)
   have h3 := txt_len d e row h2 (hb e (by simp))
   have h4 := ih (es := es) (fun c hc' => hc c (by simp [hc'])) (fun e he => hx e (by simp [he])) fun e he => hb e (by simp [he])
   simp only [setsT, List.map_cons, List.sum_cons, List.length_append, List.length_cons, List.length_nil] at h4 ⊢
   omega
theorem plainT_len {F : Nat → Prop} {w : World} {d : Nat} {op n : Int} {name src : ByteArray} {cols : List ByteArray} {A : Option Addr} {m c nb nl : Nat} {es : List Ex} (hg : ShapeG op name src n cols es.length nb nl) (h : ExsAt F d w A m c es) (hb : ∀ e ∈ es, builtE d e = true) : (plainT d op name src cols es).length ≤ 260 + 502 * (es.map (cntE d)).sum := by
 have hx : ∀ e ∈ es, ∃ r, ExAt F d w r e := ls_each h
 have h1 := join_exprs h hb
 have h2 := rowsX_len hg.name_ hg.src_ hx hb
 have h3 := setsT_len (es := es.tail) hg.cols_ (fun e he => hx e (List.mem_of_mem_tail he)) (fun e he => hb e (List.mem_of_mem_tail he))
 have n1 := hg.name_
 have n2 := hg.src_
 have n3 := hg.cols8
 unfold plainT
 repeat' split
 all_goals simp only [List.length_append, List.length_cons, List.length_nil]
 all_goals omega
theorem txtS_len {F : Nat → Prop} {w : World} : ∀ (d : Nat) (x : St) (row : List Value) (k K : Nat), StAt F d w row x → builtS d x = true → k + d ≤ K → (txtS d k x).length + 2 * K + 1 ≤ (600 + 8 * K) * cntS d x := by
 intro d
 induction d with
 | zero => intro x row k K h; exact h.elim
 | succ d ih =>
  intro x row k K h hb hk
  obtain ⟨op, name, src, n, cols, exprs, body, els⟩ := x
  obtain ⟨hg, he, hbo, hel⟩ := builtS_parts hb
  obtain ⟨_, hn, _, _, Ac, nc, cc, Ae, ne, ce, Ab, nb, cb, Al, nl, cl, _, _, hxe, hxb, hxl⟩ := h.open_
  have hxe : ExsAt F d w Ae ne ce exprs := hxe
  have hxb : StsAt F d w Ab nb cb body := hxb
  have hxl : StsAt F d w Al nl cl els := hxl
  have hx1 : ∀ e ∈ exprs, ∃ r, ExAt F d w r e := ls_each hxe
  have hpos : 1 ≤ (exprs.map (cntE d)).sum := by
   have h1 := hg.one
   cases exprs with
   | nil => simp at h1
   | cons a r =>
    have := he a (by simp)
    cases d with
    | zero => cases this
    | succ d => rw [List.map_cons, List.sum_cons, cntE]; omega
  rw [txtS_op, cntS_op, Nat.mul_add, Nat.mul_add, Nat.mul_add]
  have hs : 1200 + 500 * (exprs.map (cntE d)).sum + 8 * K ≤ (600 + 8 * K) * 1 + (600 + 8 * K) * (exprs.map (cntE d)).sum + 500 := by
   have h1 : 600 * (exprs.map (cntE d)).sum + 8 * K * (exprs.map (cntE d)).sum = (600 + 8 * K) * (exprs.map (cntE d)).sum := (Nat.add_mul _ _ _).symm
   have h2 : 8 * K * 1 ≤ 8 * K * (exprs.map (cntE d)).sum := Nat.mul_le_mul_left _ hpos
   omega
  have hbl : ∀ l : List St, (∀ x ∈ l, builtS d x = true) → (∀ x ∈ l, ∃ r, StAt F d w r x) → (blockT (txtS d) k l).length ≤ 4 + 2 * K + (600 + 8 * K) * (l.map (cntS d)).sum := fun l h1 h2 => blockT_len (by omega) fun x hx => by
   obtain ⟨r, hr⟩ := h2 x hx
   exact ih x r (k + 1) K hr (h1 x hx) (by omega)
  have hb1 := hbl body hbo (ls_each hxb)
  have hb2 := hbl els hel (ls_each hxl)
  split
  ·have h2 := rowsX_len hg.name_ hg.src_ hx1 he
   have h3 := decS_len (show okI n from hn)
   simp only [List.length_append, List.length_cons, List.length_nil]
   split
   ·simp only [List.length_append, List.length_cons, List.length_nil]; omega
   ·simp only [List.length_nil]; omega
  ·split
   ·have h2 := firstT_len hx1 he
    simp only [List.length_append, List.length_cons, List.length_nil]
    split
    ·simp only [List.length_nil]; omega
    ·simp only [List.length_append, List.length_cons, List.length_nil]; omega
   ·have h2 := plainT_len hg hxe he
    simp only [List.length_append, List.length_cons, List.length_nil]
    have h1 : 600 * (exprs.map (cntE d)).sum + 8 * K * (exprs.map (cntE d)).sum = (600 + 8 * K) * (exprs.map (cntE d)).sum := (Nat.add_mul _ _ _).symm
    omega
theorem exs_wrote {F : Nat → Prop} {d n c g : Nat} {w : World} {A : Option Addr} {es : List Ex} (h : ExsAt F d w A n c es) (hF : ∀ k, F k → k < g) {k : Nat} (hk : k < n) :
  ∃ b o e A2 m2 c2, A = some ⟨b, o, none⟩ ∧ es[k]? = some e ∧ ∀ W, Wrote g w W → b < W.heap.size ∧ Six W b (o + k * 6) e A2 m2 c2 ∧ ExAt F d W (rowOf e A2 m2 c2) e := by
 obtain ⟨b, o, r, e, hA, hb, hFb, he, hl, hp, hc⟩ := LsAt.get h hk
 obtain ⟨A2, m2, c2, rfl⟩ := ex_row hp
 refine ⟨b, o, e, A2, m2, c2, hA, he, fun W hW => ⟨Nat.lt_of_lt_of_le hb hW.1.size, Six.wrote ⟨by simpa using hc 0 _ rfl, hc 1 _ rfl, hc 2 _ rfl, hc 3 _ rfl, hc 4 _ rfl, hc 5 _ rfl⟩ (hF b hFb) hW, ExAt.wrote hp hF hW⟩⟩
theorem any_take {α : Type} {p : α → Bool} {l : List α} {k : Nat} {a : α} (h : l[k]? = some a) : (l.take (k + 1)).any p = ((l.take k).any p || p a) := by
 obtain ⟨h1, h2⟩ := List.getElem?_eq_some_iff.1 h
 rw [List.take_succ_eq_append_getElem h1, List.any_append, h2]
 simp
theorem list_any (F : Nat → Prop) (d : Nat) (es : List Ex) (A : Option Addr) (n c g : Nat) (t : List UInt8) (br : Bool) (w : World) (hx : ExsAt F d w A n c es) (hb : ∀ e ∈ es, builtE d e = true) (hF : ∀ k, F k → k < g) (h : WtAt g t br w) (hm : HasMax w) (hg : 0 < g) (hlen : t.length + (joinT (es.map (txtE d))).length ≤ 1000000000) :
  Calls Tryz.prog 187 #[.pointer (some ⟨g, 0, none⟩), .slice A n c] w fun e' w' => e' = .returned (.tuple #[]) ∧ WtAt g (t ++ joinT (es.map (txtE d))) (br || es.any (nlE d)) w' ∧ Wrote g w w' := by
 have hn := LsAt.n_le hx
 have hne := LsAt.len hx
 have Hget := Lhd (fun k (hk : k < n) => exs_wrote hx hF hk)
 have Hb := Lhd hb
 have HF := Lhd hF
 have Hm := Lhd hm
 have Hlen := Lhd hlen
 have H := Lhd h
 have Hg := Lhd hg
 clear hx hb hF h hm hlen hg
 go_enter Tryz.func187, Tryz.ntmps187
 go_wp2
 go_loopw [8] (fun i wr => ∃ k : Nat, k ≤ n ∧ i = .int .i64 k ∧ Hid (WtAt g (t ++ joinT ((es.map (txtE d)).take k)) (br || (es.take k).any (nlE d)) wr) ∧ Hid (Wrote g w wr)) (fun i _ => n - (intOf i).toNat)
 case atStart => exact ⟨0, Nat.zero_le _, rfl, Lhd (by simpa [joinT] using H.out), Lhd (Wrote.refl _ _)⟩
 case round =>
  obtain ⟨k, hk, rfl, HW, HR⟩ := hrel
  rcases Nat.lt_or_ge k n with hlt | hge
  ·obtain ⟨b, o, e, A2, m2, c2, rfl, he, hat⟩ := Hget.out k hlt
   obtain ⟨hbl, hS, hxe⟩ := hat _ HR.out
   obtain ⟨z0, z1, z2, z3, z4, z5⟩ := hS
   have hlm : k < (es.map (txtE d)).length := by rw [List.length_map]; omega
   have hjl := joinT_take_le hlm
   have hjt := joinT_take hlm
   have hge : (es.map (txtE d))[k]'hlm = txtE d e := by
    obtain ⟨h1, h2⟩ := List.getElem?_eq_some_iff.1 he
    rw [List.getElem_map, h2]
   rw [hge] at hjl hjt
   have Hat := Lhd (any_take (p := nlE d) he)
   have hbe := Hb.out e (List.mem_of_getElem? he)
   obtain ⟨w4, Hw4⟩ : ∃ w4, Hid (w4 = wr.alloc (.cells #[.int .i64 e.op, .int .i64 e.n, .string e.s, .string e.name, .string e.src, .slice A2 m2 c2] 32)) := ⟨_, rfl⟩
   have hb4 : Below wr.heap.size wr w4 := by rw [Hw4.out]; exact (Below.refl _ _).alloc (Nat.le_refl _) _
   have hk4 : IsBlk w4 wr.heap.size 32 #[.int .i64 e.op, .int .i64 e.n, .string e.s, .string e.name, .string e.src, .slice A2 m2 c2] := by rw [Hw4.out]; exact IsBlk.laid _ _ _
   have hwt4 := HW.out.below hb4
   have hr4 : Wrote g w w4 := HR.out.trans (Wrote.of_below (Nat.le_of_lt HW.out.lt) hb4)
   have Hx := Lhd (fun W (hW : Wrote g w4 W) => box6 (hW.2.2 _ _ _ (by decide) (by decide) hk4))
   have He := Lhd (fun W (hW : Wrote g w W) t' br' (hwt : WtAt g t' br' W) (hl : t'.length + (txtE d e).length ≤ 1000000000) => expr_any d F e _ g t' br' W (hat W hW).2.2 hbe HF.out hwt (Hm.out.below Hg.out hW.1) Hg.out hl)
   have Hr4 := Lhd hr4
   have Hl4 := Lhd (show (t ++ joinT ((es.map (txtE d)).take k)).length + (if k = 0 then 0 else 2) + (txtE d e).length ≤ 1000000000 from by have := Hlen.out; rw [List.length_append]; omega)
   have Hjt := Lhd hjt
   obtain ⟨x0, x1, x2, x3, x4, x5, xl⟩ := Hx.out _ (Wrote.refl _ _)
   clear hxe hat hb4 hk4 hr4 hjl hjt hge he hbe hlm
   go_upto_region 3 with (fail)
   rw [← Hw4.out]
   rcases Nat.eq_zero_or_pos k with rfl | h0
   ·rw [if_pos rfl] at Hl4 Hjt
    clear z0 z1 z2 z3 z4 z5
    go_wp2_with (go_at_call 22; refine (He.out _ Hr4.out _ _ hwt4 (by have h9 := Hl4.out; omega)).mono ?_; rintro e' w6 ⟨rfl, hwt6, hr6⟩)
    have H6 := Lhd (And.intro hwt6 (Hr4.out.trans hr6))
    clear hwt6 hr6
    go_roundw
    case rel =>
     refine ⟨0 + 1, by omega, by go_num, Lhd ?_, Lhd H6.out.2⟩
     rw [Hjt.out, Hat.out, ← Bool.or_assoc]
     simpa [joinT] using H6.out.1
    case measure => simp [intOf]; omega
   ·have hd : decide ((0 : Int) < (k : Int)) = true := by simp; omega
    have h0' : ¬ k = 0 := by omega
    rw [if_neg h0'] at Hl4 Hjt
    clear z0 z1 z2 z3 z4 z5 h0'
    go_wp2_with (fail)
    refine (put_new g 1 _ _ [⟨#[44, 32]⟩] _ hwt4 rfl (by decide) (by have h9 := Hl4.out; have e2 : (catL [⟨#[44, 32]⟩]).length = 2 := rfl; omega)).mono ?_
    rintro e' w5 ⟨rfl, hwt5, hr5⟩
    obtain ⟨y0, y1, y2, y3, y4, y5, yl⟩ := Hx.out _ hr5
    have Hr5 := Lhd (Hr4.out.trans hr5)
    clear x0 x1 x2 x3 x4 x5 xl hwt4 hr5
    go_wp2_with (go_at_call 22; refine (He.out _ Hr5.out _ _ hwt5 (by have h9 := Hl4.out; have e2 : (catL [⟨#[44, 32]⟩]).length = 2 := rfl; rw [List.length_append]; omega)).mono ?_; rintro e' w6 ⟨rfl, hwt6, hr6⟩)
    have H6 := Lhd (And.intro hwt6 (Hr5.out.trans hr6))
    clear hwt6 hr6
    go_roundw
    case rel =>
     refine ⟨k + 1, by omega, by go_num, Lhd ?_, Lhd H6.out.2⟩
     rw [Hjt.out, Hat.out, ← Bool.or_assoc]
     simpa [catL] using H6.out.1
    case measure => simp [intOf]; omega
  ·obtain rfl : k = n := Nat.le_antisymm hk hge
   have e1 : (es.map (txtE d)).take k = es.map (txtE d) := List.take_of_length_le (by rw [List.length_map]; omega)
   have e2 : es.take k = es := List.take_of_length_le (by omega)
   rw [e1, e2] at HW
   go_wp2
   go_end0
   exact ⟨rfl, HW.out, HR.out⟩
end Go.Proofs.YtjpiedpmnnepgaaGreatDoor
