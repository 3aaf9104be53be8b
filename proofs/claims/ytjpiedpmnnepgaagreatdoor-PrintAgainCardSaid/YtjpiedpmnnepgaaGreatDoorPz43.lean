/- Parts of this proof, one behind the other: RtN, RtO, RtP, RtQ, AgW. -/
import Derived.Test.YtjpiedpmnnepgaaGreatDoorPz42
import Derived.Test.YtjpiedpmnnepgaaGreatDoorPz17
import Derived.Test.YtjpiedpmnnepgaaGreatDoorPz11
set_option maxRecDepth 1000000
set_option maxHeartbeats 40000000
namespace Go.Proofs.YtjpiedpmnnepgaaGreatDoor
open Go.RowKit Go.Afx
def Low (s : Int × Int) (H : Nat) : Prop := 0 ≤ s.1 ∧ (s.1 < 1000 → s.2 < 1000 → (H : Int) ≤ s.2)
theorem Low.nought : Low (0, 0) 0 := ⟨by decide, fun _ _ => by decide⟩
theorem Low.much (H : Nat) : Low (1000, 1000) H := ⟨by decide, fun h _ => absurd h (by decide)⟩
theorem Low.add {s t : Int × Int} {H K : Nat} (h : Low s H) (k : Low t K) : Low (addZ s t) (max H K) := by
 obtain ⟨h1, h2⟩ := h
 obtain ⟨k1, k2⟩ := k
 refine ⟨by simp only [addZ]; omega, fun g1 g2 => ?_⟩
 simp only [addZ] at g1 g2 ⊢
 have a := h2 (by omega) (by omega)
 have b := k2 (by omega) (by omega)
 omega
theorem Low.over {s : Int × Int} {H : Nat} (h : Low s H) : Low (overZ s) (1 + H) := by
 obtain ⟨h1, h2⟩ := h
 refine ⟨by simp only [overZ]; omega, fun g1 g2 => ?_⟩
 simp only [overZ] at g1 g2 ⊢
 have a := h2 (by omega) (by omega)
 omega
theorem Low.all {α : Type} {lv : Int} {one : α → Int × Int} {g : α → Nat} (h : ∀ x, Low (one x) (g x)) : ∀ (l : List α) {s : Int × Int} {H : Nat}, Low s H → Low (allZ lv one s l) (max H (maxN (l.map g))) := by
 intro l
 induction l with
 | nil => intro s H hs; simpa [allZ, maxN] using hs
 | cons x r ih =>
  intro s H hs
  rw [List.map_cons, maxN_cons]
  unfold allZ
  split
  ·exact Low.much _
  ·have := ih (hs.add (h x))
   rw [Nat.max_assoc] at this
   exact this
theorem sizeE_low (d : Nat) : ∀ (lv : Int) (e : Ex), Low (sizeE d lv e) (dptE d e) := by
 induction d with
 | zero => intro lv e; exact Low.nought
 | succ d ih =>
  intro lv e
  rw [sizeE, dptE]
  have := Low.all (lv := lv + 1) (fun x => ih (lv + 1) x) e.args Low.nought
  rw [Nat.zero_max] at this
  exact this.over
theorem sizeS_low (d : Nat) : ∀ (lv : Int) (e : St), Low (sizeS d lv e) (dptS d e) := by
 induction d with
 | zero => intro lv e; exact Low.nought
 | succ d ih =>
  intro lv e
  rw [sizeS, dptS]
  have h1 := Low.all (lv := lv + 1) (fun x => sizeE_low d (lv + 1) x) e.exprs Low.nought
  have h2 := Low.all (lv := lv + 1) (fun x => ih (lv + 1) x) e.body Low.nought
  have h3 := Low.all (lv := lv + 1) (fun x => ih (lv + 1) x) e.els Low.nought
  rw [Nat.zero_max] at h1 h2 h3
  exact ((h1.add h2).add h3).over
theorem small_dpt {d : Nat} {p : Pr} (h : smallZ (sizeP d p) = true) : dptP d p ≤ 12 := by
 have hl := Low.all (lv := 0) (fun x => sizeS_low d 0 x) p.body Low.nought
 rw [Nat.zero_max] at hl
 obtain ⟨h1, h2⟩ := hl
 have e : sizeP d p = allZ 0 (sizeS d 0) (0, 0) p.body := rfl
 rw [e] at h
 simp only [smallZ, Bool.and_eq_true, decide_eq_true_eq] at h
 have := h2 (by omega) (by omega)
 unfold dptP
 omega
/- a procedure's text -/
def NumP (d : Nat) (p : Pr) : Prop := ∀ b ∈ p.body, NumS d b
theorem lx_param {c : Co} (h1 : freeB c.name = true) (h2 : 1 ≤ c.kind ∧ c.kind ≤ 3) : Lx (paramT c) (paramK c) := by
 intro R ks hR hl
 obtain ⟨name, kind⟩ := c
 simp only at h1 h2
 have e1 : paramT ⟨name, kind⟩ ++ R = name.data.toList ++ (32 :: (kindT kind ++ R)) := by unfold paramT; simp
 have e2 : paramK ⟨name, kind⟩ ++ ks = idK name :: (kindK kind :: ks) := rfl
 rw [e1, e2]
 refine lx_name (named_of h1) (bd_cons (by decide) _) (lx_blank (by decide) ?_)
 unfold kindK
 refine lx_kw ?_ hR hl
 obtain rfl | rfl | rfl : kind = 1 ∨ kind = 2 ∨ kind = 3 := by omega
 all_goals decide +kernel
def onT (b : ByteArray) : List UInt8 := if noS b then [] else [32, 111, 110, 32] ++ b.data.toList
def fromT (b : ByteArray) : List UInt8 := if noS b then [] else [32, 102, 114, 111, 109, 32] ++ b.data.toList
def fuelT (n : Int) : List UInt8 := if n = 100 then [] else [32, 102, 117, 101, 108, 32] ++ decS n
theorem bd_from {b : ByteArray} {R : List UInt8} (hR : Bd R) : Bd (fromT b ++ R) := by
 unfold fromT
 split
 ·exact hR
 ·exact bd_cons (by decide) _
theorem bd_fuel {n : Int} {R : List UInt8} (hR : Bd R) : Bd (fuelT n ++ R) := by
 unfold fuelT
 split
 ·exact hR
 ·exact bd_cons (by decide) _
theorem lx_on {b : ByteArray} (h : noS b = false → freeB b = true) : Lx (onT b) (onK b) := by
 intro R ks hR hl
 unfold onT onK
 cases hb : noS b with
 | true => exact hl
 | false =>
  have e1 : (if false = true then [] else [32, 111, 110, 32] ++ b.data.toList) ++ R = 32 :: ([111, 110] ++ (32 :: (b.data.toList ++ R))) := by simp
  rw [e1]
  exact lx_blank (by decide) (lx_kw (t := [111, 110]) (by decide +kernel) (bd_cons (by decide) _) (lx_blank (by decide) (lx_name (named_of (h hb)) hR hl)))
theorem lx_from {b : ByteArray} (h : noS b = false → freeB b = true) : Lx (fromT b) (fromK b) := by
 intro R ks hR hl
 unfold fromT fromK
 cases hb : noS b with
 | true => exact hl
 | false =>
  have e1 : (if false = true then [] else [32, 102, 114, 111, 109, 32] ++ b.data.toList) ++ R = 32 :: ([102, 114, 111, 109] ++ (32 :: (b.data.toList ++ R))) := by simp
  rw [e1]
  exact lx_blank (by decide) (lx_kw (t := [102, 114, 111, 109]) (by decide +kernel) (bd_cons (by decide) _) (lx_blank (by decide) (lx_name (named_of (h hb)) hR hl)))
theorem lx_fuel {n : Int} (h : 1 ≤ n ∧ n ≤ 2000) : Lx (fuelT n) (fuelK n) := by
 intro R ks hR hl
 unfold fuelT fuelK
 by_cases hn : n = 100
 ·rw [if_pos hn, if_pos hn]; exact hl
 ·rw [if_neg hn, if_neg hn]
  have e1 : [32, 102, 117, 101, 108, 32] ++ decS n ++ R = 32 :: ([102, 117, 101, 108] ++ (32 :: (decS n ++ R))) := by simp
  rw [e1]
  exact lx_blank (by decide) (lx_kw (t := [102, 117, 101, 108]) (by decide +kernel) (bd_cons (by decide) _) (lx_blank (by decide) (lx_num (by omega) (by omega) hR hl)))
theorem lx_proc {d : Nat} {p : Pr} (hh : headsB p = true) (hb : ∀ x ∈ p.body, builtS d x = true) (hnl : nlP d p = false) (hn : NumP d p) : LexB (txtP d p) (tokP d p) := by
 obtain ⟨h1, h2, h3, h4⟩ := heads_parts hh
 have hnl := List.any_eq_false.1 hnl
 have hs : ∀ x ∈ p.body, Lx (txtS d (0 + 1) x) (tokS d x) := fun x hx => lx_stmt d x (hb x hx) (by simpa using hnl x hx) (hn x hx) _
 have no : noS nil0 = true := by decide +kernel
 have hon : noS p.part = false → freeB p.part = true := fun h => by
  rcases h4 with ⟨e, _⟩ | ⟨e, _⟩ | ⟨e, _⟩
  ·rw [e, no] at h; cases h
  ·exact e
  ·rw [e, no] at h; cases h
 have hfr : noS p.src = false → freeB p.src = true := fun h => by
  rcases h4 with ⟨_, e⟩ | ⟨_, e⟩ | ⟨_, e⟩
  ·rw [e, no] at h; cases h
  ·rw [e, no] at h; cases h
  ·exact e
 have e1 : txtP d p = [112, 114, 111, 99] ++ (32 :: (p.name.data.toList ++ (40 :: (joinT (p.params.map paramT) ++ (41 :: (onT p.part ++ (fromT p.src ++ (fuelT p.fuel ++ (32 :: (blockT (txtS d) 0 p.body ++ [])))))))))) := by
  have : txtP d p = [112, 114, 111, 99, 32] ++ p.name.data.toList ++ [40] ++ joinT (p.params.map paramT) ++ [41] ++ onT p.part ++ fromT p.src ++ fuelT p.fuel ++ [32] ++ blockT (txtS d) 0 p.body := rfl
  rw [this]; simp
 have e2 : tokP d p = nmK [112, 114, 111, 99] :: (idK p.name :: (sgK [40] :: (joinK (p.params.map paramK) ++ (sgK [41] :: (onK p.part ++ (fromK p.src ++ (fuelK p.fuel ++ (blockK (tokS d) p.body ++ [])))))))) := by
  rw [List.append_nil]; rfl
 rw [e1, e2]
 have hb2 : Bd (32 :: (blockT (txtS d) 0 p.body ++ [])) := bd_cons (by decide) _
 exact lx_kw (by decide +kernel) (bd_cons (by decide) _) (lx_blank (by decide) (lx_name (named_of h1) (bd_cons (by decide) _) (sg1 (by decide) (lx_join _ (fun c hc => lx_param (h2 c hc).1 (h2 c hc).2) _ _ (bd_cons (by decide) _) (sg1 (by decide)
  (lx_on hon _ _ (bd_from (bd_fuel hb2)) (lx_from hfr _ _ (bd_fuel hb2) (lx_fuel h3 _ _ hb2 (lx_blank (by decide) (lx_block hs .nil))))))))))
def NoNl (b : ByteArray) : Prop := b.data.toList.any (· == 10) = false
theorem noNl_nil : NoNl nil0 := rfl
def ClE (e : Ex) : Prop := ∀ D, nlE D e = false
def ClS (x : St) : Prop := ∀ D, nlS D x = false
theorem clE_mk {op n : Int} {a b c : ByteArray} {l : List Ex} (h2 : op ≠ 2 ∨ NoNl a) (h : ∀ x ∈ l, ClE x) : ClE (.mk op n a b c l) := fun D => by
 cases D with
 | zero => rfl
 | succ D =>
  rw [nlE]
  have h3 : (Ex.mk op n a b c l).args.any (nlE D) = false := List.any_eq_false.2 fun x hx => by rw [h x hx D]; decide
  rw [h3, Bool.or_false]
  show (decide (op = 2) && a.data.toList.any (· == 10)) = false
  rcases h2 with h2 | h2
  ·rw [decide_eq_false h2, Bool.false_and]
  ·rw [show a.data.toList.any (· == 10) = false from h2, Bool.and_false]
theorem clS_mk {op n : Int} {a b : ByteArray} {c : List ByteArray} {l : List Ex} {bo el : List St} (h : ∀ x ∈ l, ClE x) (hb : ∀ x ∈ bo, ClS x) (he : ∀ x ∈ el, ClS x) : ClS (.mk op a b n c l bo el) := fun D => by
 cases D with
 | zero => rfl
 | succ D =>
  rw [nlS]
  have h1 : (St.mk op a b n c l bo el).exprs.any (nlE D) = false := List.any_eq_false.2 fun x hx => by rw [h x hx D]; decide
  have h2 : (St.mk op a b n c l bo el).body.any (nlS D) = false := List.any_eq_false.2 fun x hx => by rw [hb x hx D]; decide
  have h3 : (St.mk op a b n c l bo el).els.any (nlS D) = false := List.any_eq_false.2 fun x hx => by rw [he x hx D]; decide
  rw [h1, h2, h3]
  rfl
theorem one_mem {α : Type} {P : α → Prop} {a : α} (h : P a) : ∀ x ∈ [a], P x := fun x hx => by obtain rfl := List.mem_singleton.1 hx; exact h
theorem two_mem {α : Type} {P : α → Prop} {a b : α} (h : P a) (h2 : P b) : ∀ x ∈ [a, b], P x := fun x hx => by
 simp only [List.mem_cons, List.not_mem_nil, or_false] at hx
 rcases hx with rfl | rfl
 ·exact h
 ·exact h2
theorem none_mem {α : Type} {P : α → Prop} : ∀ x ∈ ([] : List α), P x := fun x hx => by cases hx
def CE (one : PSt → Ex × PSt) : Prop := ∀ s, ClE (one s).1
theorem cl_ex0 : ClE ex0 := clE_mk (.inr noNl_nil) none_mem
theorem cl_two {op : Int} {a b : Ex} (h : ClE a) (h2 : ClE b) : ClE (twoP op a b) := clE_mk (.inr noNl_nil) (two_mem h h2)
theorem cl_one {op : Int} {a : Ex} (h : ClE a) : ClE (oneP op a) := clE_mk (.inr noNl_nil) (one_mem h)
section
variable (W : Wds)
theorem cl_chain (l : List (ByteArray × Int)) {one : PSt → Ex × PSt} (h : CE one) : ∀ (k : Nat) (e : Ex) (s : PSt), ClE e → ClE (chainP W l one k e s).1 := by
 intro k
 induction k with
 | zero => intro e s he; exact he
 | succ k ih =>
  intro e s he
  unfold chainP
  split
  ·exact he
  ·exact ih _ _ (cl_two he (h _))
theorem cl_chain1 (l : List (ByteArray × Int)) {one : PSt → Ex × PSt} (h : CE one) : CE (chain1 W l one) := fun s => cl_chain W l h _ _ _ (h s)
variable {E : PSt → Ex × PSt} (hE : CE E) (hW : ∀ i, (W.look i).kind = 2 → NoNl (W.look i).text)
include hE
theorem cl_where (s : PSt) : ClE (whereP W E s).1 := by
 unfold whereP
 split
 ·exact hE _
 ·exact clE_mk (.inr noNl_nil) none_mem
theorem cl_fold (s : PSt) : ClE (foldP W E s).1 := by
 unfold foldP
 simp only
 split
 ·exact clE_mk (.inr noNl_nil) (one_mem (cl_where W hE _))
 ·exact clE_mk (.inr noNl_nil) (two_mem (cl_where W hE _) (hE _))
include hW
theorem cl_single : CE (singleP W E) := fun s => by
 unfold singleP
 split
 ·exact cl_ex0
 ·split
  ·exact clE_mk (.inr noNl_nil) none_mem
  ·split
   ·rename_i h2
    exact clE_mk (.inr (hW _ h2)) none_mem
   ·split
    ·exact clE_mk (.inr noNl_nil) none_mem
    ·split
     ·exact clE_mk (.inr noNl_nil) none_mem
     ·split
      ·exact cl_fold W hE s
      ·split
       ·exact hE _
       ·unfold varP
        simp only
        split
        ·exact clE_mk (.inl (by decide)) none_mem
        ·exact clE_mk (.inr noNl_nil) none_mem
theorem cl_signed : ∀ f, CE (signedP W E f) := by
 intro f
 induction f with
 | zero => exact fun s => cl_ex0
 | succ f ih =>
  intro s
  unfold signedP
  split
  ·exact cl_one (ih _)
  ·exact cl_single W hE hW s
theorem cl_sum : CE (sumP W E) := cl_chain1 W lvSum (cl_chain1 W lvMul (cl_signed W hE hW _))
theorem cl_cmp : CE (cmpP W E) := fun s => by
 unfold cmpP
 simp only
 split
 ·exact cl_sum W hE hW s
 ·exact cl_two (cl_sum W hE hW s) (cl_sum W hE hW _)
theorem cl_not : ∀ f, CE (notP W E f) := by
 intro f
 induction f with
 | zero => exact fun s => cl_ex0
 | succ f ih =>
  intro s
  unfold notP
  split
  ·exact cl_one (ih _)
  ·exact cl_cmp W hE hW s
omit hE hW
theorem cl_expr (hW : ∀ i, (W.look i).kind = 2 → NoNl (W.look i).text) : ∀ f, CE (exprP W f) := by
 intro f
 induction f with
 | zero => exact fun s => cl_ex0
 | succ f ih => exact fun s => cl_chain1 W lvOr (cl_chain1 W lvAnd (cl_not W ih hW _)) s
end
section
variable (W : Wds) (hW : ∀ i, (W.look i).kind = 2 → NoNl (W.look i).text)
theorem cl_list {α : Type} {P : α → Prop} {one : PSt → α × PSt} (h : ∀ s, P (one s).1) : ∀ (f : Nat) (l : List α) (s : PSt), (∀ x ∈ l, P x) → ∀ x ∈ (listP W one f l s).1, P x := by
 intro f
 induction f with
 | zero => intro l s hl; exact hl
 | succ f ih =>
  intro l s hl
  unfold listP
  split
  ·refine ih _ _ fun x hx => ?_
   rcases List.mem_append.1 hx with hx | hx
   ·exact hl x hx
   ·obtain rfl := List.mem_singleton.1 hx; exact h _
  ·exact hl
theorem cl_list1 {α : Type} {P : α → Prop} {one : PSt → α × PSt} (h : ∀ s, P (one s).1) (s : PSt) : ∀ x ∈ (list1 W one s).1, P x := cl_list W h _ _ _ (one_mem (h s))
include hW
theorem cl_expr1 : CE (expr1 W) := cl_expr W hW _
theorem cl_plain (s : PSt) : ClS (plainP W s).1 := by
 have h1 := cl_expr1 W hW
 have hl : ∀ s, ∀ x ∈ (exprsP W s).1, ClE x := fun s => cl_list1 W (P := ClE) h1 s
 unfold plainP
 split
 ·exact clS_mk (one_mem (h1 _)) none_mem none_mem
 ·split
  ·exact clS_mk (one_mem (h1 _)) none_mem none_mem
  ·split
   ·exact clS_mk (hl _) none_mem none_mem
   ·split
    ·exact clS_mk (hl _) none_mem none_mem
    ·split
     ·unfold changeP
      simp only
      refine clS_mk (fun x hx => ?_) none_mem none_mem
      rcases List.mem_cons.1 hx with rfl | hx
      ·exact cl_where W h1 _
      ·obtain ⟨y, hy, rfl⟩ := List.mem_map.1 hx
       exact cl_list1 W (P := fun y : ByteArray × Ex => ClE y.2) (fun s => h1 _) _ y hy
     ·split
      ·exact clS_mk (one_mem (cl_where W h1 _)) none_mem none_mem
      ·split
       ·exact clS_mk (one_mem (h1 _)) none_mem none_mem
       ·split
        ·exact clS_mk (hl _) none_mem none_mem
        ·exact clS_mk none_mem none_mem none_mem
theorem cl_stmt {B : PSt → List St × PSt} (hB : ∀ s, ∀ x ∈ (B s).1, ClS x) (s : PSt) : ClS (stmtP W B s).1 := by
 have h1 := cl_expr1 W hW
 unfold stmtP
 split
 ·exact clS_mk (one_mem (cl_where W h1 _)) (hB _) none_mem
 ·split
  ·unfold ifP
   simp only
   split
   ·exact clS_mk (one_mem (h1 _)) (hB _) (hB _)
   ·exact clS_mk (one_mem (h1 _)) (hB _) none_mem
  ·exact cl_plain W hW s
omit hW
theorem cl_stmts {one : PSt → St × PSt} (h : ∀ s, ClS (one s).1) : ∀ (f : Nat) (l : List St) (s : PSt), (∀ x ∈ l, ClS x) → ∀ x ∈ (stmtsP W one f l s).1, ClS x := by
 intro f
 induction f with
 | zero => intro l s hl; exact hl
 | succ f ih =>
  intro l s hl
  unfold stmtsP
  split
  ·refine ih _ _ fun x hx => ?_
   rcases List.mem_append.1 hx with hx | hx
   ·exact hl x hx
   ·obtain rfl := List.mem_singleton.1 hx; exact h _
  ·exact hl
include hW
theorem cl_block : ∀ f s, ∀ x ∈ (blockP W f s).1, ClS x := by
 intro f
 induction f with
 | zero => exact fun s => none_mem
 | succ f ih =>
  intro s
  exact cl_stmts W (fun s => cl_stmt W hW ih s) _ _ _ none_mem
theorem cl_proc (s : PSt) (D : Nat) : nlP D (procP W s).1 = false := by
 unfold nlP procP
 exact List.any_eq_false.2 fun x hx => by rw [cl_block W hW _ _ x hx D]; decide
end
theorem quo_clean : ∀ (k : Nat) (s acc : List UInt8) (i : Nat) (b : List UInt8) (n : Nat), s.length ≤ k → quo s acc i = some (b, n) → acc.any (· == 10) = false → b.any (· == 10) = false := by
 intro k
 induction k with
 | zero =>
  intro s acc i b n hk h _
  obtain rfl : s = [] := List.eq_nil_of_length_eq_zero (by omega)
  simp [quo] at h
 | succ k ih =>
  intro s acc i b n hk h ha
  cases s with
  | nil => simp [quo] at h
  | cons d s =>
   obtain ⟨q1, q2, q3⟩ := quo_at (c := d) (r := s) (acc := acc) (i := i)
   simp only [List.length_cons] at hk
   by_cases e10 : d.toNat = 10
   ·rw [q1 e10] at h; cases h
   ·by_cases e39 : d.toNat = 39
    ·obtain ⟨q4, q5⟩ := q3 e39
     by_cases hh : s.head? = some 39
     ·rw [q4 hh] at h
      exact ih _ _ _ _ _ (by rw [List.length_drop]; omega) h (by rw [List.any_append, ha]; rfl)
     ·rw [q5 hh] at h
      cases h
      exact ha
    ·rw [q2 e10 e39] at h
     refine ih _ _ _ _ _ (by omega) h ?_
     rw [List.any_append, ha]
     have : d ≠ 10 := fun e => e10 (by rw [e]; rfl)
     simp [this]
theorem next_clean {s : List UInt8} {x : Nx} (h : nextX s = some x) (hk : x.kind = 2) : x.text.any (· == 10) = false := by
 unfold nextX at h
 split at h
 ·unfold plainX at h
  split at h
  ·cases hn : parseN (s.takeWhile lexB) with
   | none => rw [hn] at h; cases h
   | some v => rw [hn] at h; cases h; cases hk
  ·split at h
   ·cases h; cases hk
   ·cases h
 ·split at h
  ·unfold quotedX at h
   split at h
   ·cases h
   ·rename_i b n hb
    split at h
    ·cases h
     exact quo_clean _ _ _ _ _ _ (Nat.le_refl _) hb rfl
    ·cases h
  ·unfold signX at h
   cases hf : signsL.find? (fun g => g.isPrefixOf s) with
   | none => rw [hf] at h; cases h
   | some g => rw [hf] at h; cases h; cases hk
theorem lexH_clean : ∀ (f a : Nat) (s : List UInt8) (ws : List Wd), lexH f a s = .inr ws → ∀ x ∈ ws, x.kind = 2 → NoNl x.text := by
 intro f
 induction f with
 | zero => intro a s ws h; cases h
 | succ f ih =>
  intro a s ws h
  by_cases hs : s = []
  ·subst hs
   have h : (Sum.inr [] : Nat ⊕ List Wd) = .inr ws := h
   cases h
   exact none_mem
  ·rw [lexH_go _ _ _ hs] at h
   cases hn : nextX s with
   | none => rw [hn] at h; cases h
   | some x =>
    rw [hn] at h
    simp only at h
    cases hr : lexH f (a + x.len + blk false (s.drop x.len)) ((s.drop x.len).drop (blk false (s.drop x.len))) with
    | inl e => rw [hr] at h; cases h
    | inr l =>
     rw [hr] at h
     have h : (Sum.inr (⟨x.kind, str x.text, x.n, a⟩ :: l) : Nat ⊕ List Wd) = .inr ws := h
     cases h
     intro y hy hk
     rcases List.mem_cons.1 hy with rfl | hy
     ·exact next_clean hn hk
     ·exact ih _ _ _ hr y hy hk
theorem look_clean {L : List UInt8} {ws : List Wd} {e : Int} (h : lexL L = .inr ws) : ∀ i, (Wds.look ⟨ws, e⟩ i).kind = 2 → NoNl (Wds.look ⟨ws, e⟩ i).text := by
 intro i hk
 rcases Nat.lt_or_ge i ws.length with hi | hi
 ·have hg : ws[i]? = some ws[i] := List.getElem?_eq_getElem hi
  rw [look_in (W := ⟨ws, e⟩) hg] at hk ⊢
  exact lexH_clean _ _ _ _ h _ (List.getElem_mem hi) hk
 ·rw [look_end (W := ⟨ws, e⟩) hi] at hk
  cases hk
theorem procX_clean (L : List UInt8) (D : Nat) : nlP D (procX L).1 = false := by
 have h0 : nlP D pr0 = false := rfl
 unfold procX textX
 split
 ·exact h0
 ·split
  ·exact h0
  ·rename_i ws hw
   unfold endX
   split
   ·exact h0
   ·split
    ·exact h0
    ·split
     ·exact cl_proc _ (look_clean hw) _ D
     ·exact h0
open Go.RowKit Go.Afx
theorem builtE_mono : ∀ (d : Nat) {k : Nat} {e : Ex}, d ≤ k → builtE d e = true → builtE k e = true := by
 intro d
 induction d with
 | zero => intro k e _ h; cases h
 | succ d ih =>
  intro k e hk h
  obtain ⟨k, rfl⟩ : ∃ m, k = m + 1 := ⟨k - 1, by omega⟩
  rw [builtE] at h ⊢
  simp only [Bool.and_eq_true, List.all_eq_true] at h ⊢
  exact ⟨h.1, fun x hx => ih (by omega) (h.2 x hx)⟩
theorem builtS_mono : ∀ (d : Nat) {k : Nat} {x : St}, d ≤ k → builtS d x = true → builtS k x = true := by
 intro d
 induction d with
 | zero => intro k e _ h; cases h
 | succ d ih =>
  intro k e hk h
  obtain ⟨k, rfl⟩ : ∃ m, k = m + 1 := ⟨k - 1, by omega⟩
  rw [builtS] at h ⊢
  simp only [Bool.and_eq_true, List.all_eq_true] at h ⊢
  exact ⟨⟨⟨h.1.1.1, fun x hx => builtE_mono d (by omega) (h.1.1.2 x hx)⟩, fun x hx => ih (by omega) (h.1.2 x hx)⟩, fun x hx => ih (by omega) (h.2 x hx)⟩
theorem builtE_low : ∀ (d : Nat) {k : Nat} {e : Ex}, dptE d e ≤ k → builtE d e = true → builtE k e = true := by
 intro d
 induction d with
 | zero => intro k e _ h; cases h
 | succ d ih =>
  intro k e hk h
  rw [dptE] at hk
  obtain ⟨k, rfl⟩ : ∃ m, k = m + 1 := ⟨k - 1, by omega⟩
  rw [builtE] at h ⊢
  simp only [Bool.and_eq_true, List.all_eq_true] at h ⊢
  exact ⟨h.1, fun x hx => ih (by have := le_maxN (List.mem_map.2 ⟨x, hx, rfl⟩ : dptE d x ∈ e.args.map (dptE d)); omega) (h.2 x hx)⟩
theorem builtS_low : ∀ (d : Nat) {k : Nat} {x : St}, dptS d x ≤ k → builtS d x = true → builtS k x = true := by
 intro d
 induction d with
 | zero => intro k e _ h; cases h
 | succ d ih =>
  intro k e hk h
  rw [dptS] at hk
  obtain ⟨k, rfl⟩ : ∃ m, k = m + 1 := ⟨k - 1, by omega⟩
  rw [builtS] at h ⊢
  simp only [Bool.and_eq_true, List.all_eq_true] at h ⊢
  exact ⟨⟨⟨h.1.1.1, fun x hx => builtE_low d (by have := le_maxN (List.mem_map.2 ⟨x, hx, rfl⟩ : dptE d x ∈ e.exprs.map (dptE d)); omega) (h.1.1.2 x hx)⟩, fun x hx => ih (by have := le_maxN (List.mem_map.2 ⟨x, hx, rfl⟩ : dptS d x ∈ e.body.map (dptS d)); omega) (h.1.2 x hx)⟩, fun x hx => ih (by have := le_maxN (List.mem_map.2 ⟨x, hx, rfl⟩ : dptS d x ∈ e.els.map (dptS d)); omega) (h.2 x hx)⟩
theorem allZ_same {α : Type} {lv : Int} {f g : α → Int × Int} : ∀ (l : List α) (s : Int × Int), (∀ x ∈ l, f x = g x) → allZ lv f s l = allZ lv g s l := by
 intro l
 induction l with
 | nil => intro s _; rfl
 | cons x l ih =>
  intro s h
  unfold allZ
  rw [h x (by simp), ih _ (fun y hy => h y (by simp [hy]))]
theorem sizeE_same : ∀ (d k : Nat) (lv : Int) (e : Ex), builtE d e = true → builtE k e = true → sizeE d lv e = sizeE k lv e := by
 intro d
 induction d with
 | zero => intro k lv e h; cases h
 | succ d ih =>
  intro k lv e h hk
  cases k with
  | zero => cases hk
  | succ k =>
   rw [builtE] at h hk
   simp only [Bool.and_eq_true, List.all_eq_true] at h hk
   rw [sizeE, sizeE, allZ_same e.args _ (fun x hx => ih k (lv + 1) x (h.2 x hx) (hk.2 x hx))]
theorem sizeS_same : ∀ (d k : Nat) (lv : Int) (x : St), builtS d x = true → builtS k x = true → sizeS d lv x = sizeS k lv x := by
 intro d
 induction d with
 | zero => intro k lv e h; cases h
 | succ d ih =>
  intro k lv e h hk
  cases k with
  | zero => cases hk
  | succ k =>
   rw [builtS] at h hk
   simp only [Bool.and_eq_true, List.all_eq_true] at h hk
   rw [sizeS, sizeS, allZ_same e.exprs _ (fun x hx => sizeE_same d k (lv + 1) x (h.1.1.2 x hx) (hk.1.1.2 x hx)), allZ_same e.body _ (fun x hx => ih k (lv + 1) x (h.1.2 x hx) (hk.1.2 x hx)), allZ_same e.els _ (fun x hx => ih k (lv + 1) x (h.2 x hx) (hk.2 x hx))]
theorem right_turn {d k : Nat} {p : Pr} (h : rightB d p = true) (hk : ∀ x ∈ p.body, builtS k x = true) : rightB k p = true := by
 unfold rightB at h ⊢
 simp only [Bool.and_eq_true, List.all_eq_true] at h ⊢
 have e : sizeP k p = sizeP d p := allZ_same p.body _ (fun x hx => sizeS_same k d 0 x (hk x hx) (h.2 x hx))
 rw [e]
 exact ⟨h.1, hk⟩
theorem right_mono {d k : Nat} {p : Pr} (hd : d ≤ k) (h : rightB d p = true) : rightB k p = true := right_turn h (fun x hx => builtS_mono d hd (by
 unfold rightB at h
 simp only [Bool.and_eq_true, List.all_eq_true] at h
 exact h.2 x hx))
theorem right_dpt {d : Nat} {p : Pr} (h : rightB d p = true) : ∀ x ∈ p.body, dptS d x ≤ 12 := fun x hx => by
 unfold rightB at h
 simp only [Bool.and_eq_true] at h
 have h1 := small_dpt h.1.2
 have := le_maxN (List.mem_map.2 ⟨x, hx, rfl⟩ : dptS d x ∈ p.body.map (dptS d))
 unfold dptP at h1
 omega
theorem right_12 {d : Nat} {p : Pr} (h : rightB d p = true) : rightB 12 p = true := right_turn h (fun x hx => builtS_low d (right_dpt h x hx) (by
 unfold rightB at h
 simp only [Bool.and_eq_true, List.all_eq_true] at h
 exact h.2 x hx))
/- what lies in cells -/
theorem ls_mem {α : Type} {F : Nat → Prop} {w : World} {sz : Nat} {Q : List Value → α → Prop} {P : α → Prop} {A : Option Addr} {n c : Nat} {xs : List α} (h : LsAt F w sz Q A n c xs) (hQ : ∀ r x, Q r x → P x) : ∀ x ∈ xs, P x := fun x hx => by
 obtain ⟨k, hk, rfl⟩ := List.mem_iff_getElem.1 hx
 obtain ⟨_, _, r, y, _, _, _, hy, _, hp, _⟩ := LsAt.get h (by rw [← LsAt.len h]; exact hk)
 rw [List.getElem?_eq_getElem hk] at hy
 cases hy
 exact hQ r _ hp
theorem numE_at {F : Nat → Prop} {w : World} : ∀ (d : Nat) {r : List Value} {e : Ex}, ExAt F d w r e → NumE d e := by
 intro d
 induction d with
 | zero => intro r e h; exact h.elim
 | succ d ih =>
  intro r e h
  obtain ⟨_, h2, _, _, _, A, m, c, _, hl⟩ := h
  exact ⟨h2.2, ls_mem hl (fun r x hx => ih hx)⟩
theorem numS_at {F : Nat → Prop} {w : World} : ∀ (d : Nat) {r : List Value} {x : St}, StAt F d w r x → NumS d x := by
 intro d
 induction d with
 | zero => intro r e h; exact h.elim
 | succ d ih =>
  intro r e h
  obtain ⟨_, _, _, _, Ac, nc, cc, Ae, ne, ce, Ab, nb, cb, Al, nl, cl, _, _, k2, k3, k4⟩ := h
  exact ⟨ls_mem k2 (fun r x hx => numE_at d hx), ls_mem k3 (fun r x hx => ih hx), ls_mem k4 (fun r x hx => ih hx)⟩
theorem numP_at {F : Nat → Prop} {w : World} {d : Nat} {r : List Value} {p : Pr} (h : PrAt F d w r p) : NumP d p := by
 obtain ⟨_, _, _, _, Ap, np, cp, Ab, nb, cb, _, _, hb⟩ := h
 exact ls_mem hb (fun r x hx => numS_at d hx)
theorem pr_12 {F : Nat → Prop} {w : World} {d : Nat} {r : List Value} {p : Pr} (h : PrAt F d w r p) (hr : rightB d p = true) : PrAt F 12 w r p := by
 have hd := right_dpt hr
 obtain ⟨h1, h2, h3, h4, Ap, np, cp, Ab, nb, cb, hrow, hp, hb⟩ := h
 exact ⟨h1, h2, h3, h4, Ap, np, cp, Ab, nb, cb, hrow, hp, LsAt.conv hb (Kept.refl _ _) (fun _ _ _ h => h) (fun r x hx h => StAt.conv (fun _ h => h) (Kept.refl _ _) _ (hd x hx) (StAt.low d h))⟩
theorem print_backD {d : Nat} {p : Pr} (h9 : d ≤ 9000) (hr : rightB d p = true) (hnl : nlP d p = false) (hn : NumP d p) (hlen : (txtP d p).length ≤ 8000) : procX (txtP d p) = (p, 0, 0) := by
 have hr9 := right_mono h9 hr
 have hdp := right_dpt hr
 have hr2 := hr
 unfold rightB at hr2
 simp only [Bool.and_eq_true, List.all_eq_true] at hr2
 obtain ⟨⟨hh, hsm⟩, hb⟩ := hr2
 obtain ⟨ws, hl, hk⟩ := lexL_of (lx_proc hh hb hnl hn)
 have hA : At ⟨ws, (txtP d p).length⟩ 0 (tokP d p ++ []) := ⟨by rw [List.append_nil]; exact hk, Nat.zero_le _⟩
 have hp := proc_back hh hb (fun x hx => Nat.le_trans (hdp x hx) (by omega)) hA
 have hlw : ws.length = (tokP d p).length := by rw [← hk, List.length_map]
 have e : procX (txtP d p) = endX pr0 (rightB 9000) ⟨ws, (txtP d p).length⟩ (procP ⟨ws, (txtP d p).length⟩ PSt.start) := textX_inr (by omega) hl
 rw [e, hp]
 unfold endX stK
 simp only [Bool.false_or, hr9, if_true, Bool.false_eq_true, if_false]
 rw [if_neg (by simp; omega)]
theorem ex_bound {F : Nat → Prop} {w : World} : ∀ (d : Nat) {r : List Value} {e : Ex}, ExAt F d w r e → ExAt (fun k => k < w.heap.size) d w r e := by
 intro d
 induction d with
 | zero => intro r e h; exact h.elim
 | succ d ih =>
  intro r e h
  obtain ⟨h1, h2, h3, h4, h5, A, m, c, hr, hl⟩ := h
  exact ⟨h1, h2, h3, h4, h5, A, m, c, hr, LsAt.conv hl (Kept.refl _ _) (fun a ha h0 _ => LsAt.lt hl h0 a ha) fun r x _ hx => ih hx⟩
theorem st_bound {F : Nat → Prop} {w : World} : ∀ (d : Nat) {r : List Value} {x : St}, StAt F d w r x → StAt (fun k => k < w.heap.size) d w r x := by
 intro d
 induction d with
 | zero => intro r e h; exact h.elim
 | succ d ih =>
  intro r e h
  obtain ⟨h1, h2, h3, h4, Ac, nc, cc, Ae, ne, ce, Ab, nb, cb, Al, nl, cl, hr, k1, k2, k3, k4⟩ := h
  exact ⟨h1, h2, h3, h4, Ac, nc, cc, Ae, ne, ce, Ab, nb, cb, Al, nl, cl, hr, LsAt.conv k1 (Kept.refl _ _) (fun a ha h0 _ => LsAt.lt k1 h0 a ha) (fun _ _ _ h => h), LsAt.conv k2 (Kept.refl _ _) (fun a ha h0 _ => LsAt.lt k2 h0 a ha) (fun _ _ _ hx => ex_bound d hx),
   LsAt.conv k3 (Kept.refl _ _) (fun a ha h0 _ => LsAt.lt k3 h0 a ha) (fun _ _ _ hx => ih hx), LsAt.conv k4 (Kept.refl _ _) (fun a ha h0 _ => LsAt.lt k4 h0 a ha) (fun _ _ _ hx => ih hx)⟩
theorem pr_bound {F : Nat → Prop} {w : World} {d : Nat} {r : List Value} {p : Pr} (h : PrAt F d w r p) : PrAt (fun k => k < w.heap.size) d w r p := by
 obtain ⟨h1, h2, h3, h4, Ap, np, cp, Ab, nb, cb, hrow, hp, hb⟩ := h
 exact ⟨h1, h2, h3, h4, Ap, np, cp, Ab, nb, cb, hrow, LsAt.conv hp (Kept.refl _ _) (fun a ha h0 _ => LsAt.lt hp h0 a ha) (fun _ _ _ h => h), LsAt.conv hb (Kept.refl _ _) (fun a ha h0 _ => LsAt.lt hb h0 a ha) (fun r x _ hx => st_bound d hx)⟩
theorem parsed_back {L : List UInt8} {F : Nat → Prop} {w : World} {r : List Value} (he : (procX L).2.2 = 0) (h : PrAt F 9000 w r (procX L).1) :
  PrAt (fun k => k < w.heap.size) 12 w r (procX L).1 ∧ rightB 12 (procX L).1 = true ∧ nlP 12 (procX L).1 = false ∧ ((txtP 12 (procX L).1).length ≤ 8000 → procX (txtP 12 (procX L).1) = ((procX L).1, 0, 0)) := by
 have hr : rightB 9000 (procX L).1 = true := textX_right he
 have h12 := pr_12 (pr_bound h) hr
 have hr12 := right_12 hr
 have hnl := procX_clean L 12
 exact ⟨h12, hr12, hnl, fun hl => print_backD (by omega) hr12 hnl (numP_at h12) hl⟩
theorem pr_row6 {F : Nat → Prop} {d : Nat} {w : World} {r : List Value} {p : Pr} (h : PrAt F d w r p) : ∃ Ap np cp Ab nb cb, r = [.string p.name, .string p.src, .string p.part, .int .i64 p.fuel, .slice Ap np cp, .slice Ab nb cb] := by
 obtain ⟨_, _, _, _, Ap, np, cp, Ab, nb, cb, hr, _⟩ := h
 exact ⟨Ap, np, cp, Ab, nb, cb, hr⟩
theorem procS_long {d : Nat} {p : Pr} (hr : rightB d p = true) (hnl : nlP d p = false) (hl : 8000 < (txtP d p).length) : procS d p = ([], 5) := by
 unfold procS printS
 rw [if_pos hr, hnl, if_neg Bool.false_ne_true, if_pos hl]
theorem procS_yes {d : Nat} {p : Pr} (hr : rightB d p = true) (hnl : nlP d p = false) (hl : ¬ 8000 < (txtP d p).length) : procS d p = (txtP d p, 0) := by
 unfold procS printS
 rw [if_pos hr, hnl, if_neg Bool.false_ne_true, if_neg hl]
theorem printAgain_walk (s : ByteArray) (w : World) (hm : HasMax w) : Calls Tryz.prog 5 #[.string s] w fun x w' => x = .returned (.bool true) ∧ Below w.heap.size w w' := by
 have Haw := Lhd (fun W (hW : Below w.heap.size w W) => awakeP_any W (hm.below hm.lt hW))
 have Hm := Lhd (fun W (hW : Below w.heap.size w W) => hm.below hm.lt hW)
 have hp := parseProc_any s w
 by_cases he : (procX s.data.toList).2.2 = 0
 ·have hback := fun (w2 : World) (r : List Value) (h : PrAt (Fr w) 9000 w2 r (procX s.data.toList).1) => parsed_back he h
  have hri : rightB 9000 (procX s.data.toList).1 = true := textX_right he
  generalize procX s.data.toList = q at *
  obtain ⟨p, at_, er⟩ := q
  have he : er = 0 := he
  subst he
  have Hp := Lhd hp
  have Hback := Lhd hback
  have Hri := Lhd hri
  clear hp hback hri hm
  go_enter Tryz.func5, Tryz.ntmps5
  go_wp2_with (fail)
  refine Hp.out.mono ?_
  rintro e w2 ⟨⟨row, rfl, hpr⟩, hb, hfew⟩
  obtain ⟨h12, hr, hnl, hbk⟩ := Hback.out w2 row hpr
  obtain ⟨Ap, np, cp, Ab, nb, cb, rfl⟩ := pr_row6 hpr
  have hal := (Below.refl w2.heap.size w2).alloc (Nat.le_refl _) (.cells #[.string p.name, .string p.src, .string p.part, .int .i64 p.fuel, .slice Ap np cp, .slice Ab nb cb] 50)
  have h03 := hb.trans (hal.mono hb.size)
  have hpp := printProc_any (fun k => k < w2.heap.size) 12 p _ _ (h12.below hal) (by omega) hfew (fun k hk => Nat.lt_of_lt_of_le hk hal.size) (Hm.out _ h03)
  have H03 := Lhd h03
  clear hpr hb hal h12 h03
  by_cases hl : 8000 < (txtP 12 p).length
  ·rw [procS_long hr hnl hl] at hpp
   have Hpp := Lhd hpp
   clear hpp hbk hl
   go_wp2_with (fail)
   refine Hpp.out.mono ?_
   rintro e w4 ⟨rfl, hb4⟩
   have Hb4 := Lhd (H03.out.trans (hb4.mono H03.out.size))
   clear hb4
   go_wp2_with (fail)
   refine (Haw.out _ Hb4.out).mono ?_
   rintro e w5 ⟨rfl, hb5⟩
   have Hb5 := Lhd (Hb4.out.trans (hb5.mono Hb4.out.size))
   clear hb5
   go_wp2
   go_ret
   exact ⟨rfl, Hb5.out⟩
  ·rw [procS_yes hr hnl hl] at hpp
   have hx := hbk (by omega)
   have Hpp := Lhd hpp
   have Hx := Lhd hx
   have Hyes := Lhd (procS_yes hr hnl hl)
   obtain ⟨T, HT⟩ : ∃ T : ByteArray, Hid (T = ⟨(txtP 12 p).toArray⟩) := ⟨_, rfl⟩
   have hTl : T.data.toList = txtP 12 p := by rw [HT.out]
   have Hq := Lhd (fun W => (show Calls Tryz.prog 15 #[.string T] W (ProcGives W (p, 0, 0)) from by
    have := parseProc_any T W
    rw [hTl, Hx.out] at this
    exact this))
   rw [← HT.out] at Hpp
   clear hpp hbk hl hx
   go_wp2_with (fail)
   refine Hpp.out.mono ?_
   rintro e w4 ⟨rfl, hb4⟩
   have Hb4 := Lhd (H03.out.trans (hb4.mono H03.out.size))
   clear hb4
   go_wp2_with (fail)
   refine (Hq.out _).mono ?_
   rintro e w5 ⟨⟨row2, rfl, hpr2⟩, hb5, hfew2⟩
   have g12 := pr_12 (pr_bound hpr2) Hri.out
   obtain ⟨Ap2, np2, cp2, Ab2, nb2, cb2, rfl⟩ := pr_row6 hpr2
   have hal5 := (Below.refl w5.heap.size w5).alloc (Nat.le_refl _) (.cells #[.string p.name, .string p.src, .string p.part, .int .i64 p.fuel, .slice Ap2 np2 cp2, .slice Ab2 nb2 cb2] 50)
   have h56 := Hb4.out.trans ((hb5.trans (hal5.mono hb5.size)).mono Hb4.out.size)
   have hpp2 := printProc_any (fun k => k < w5.heap.size) 12 p _ _ (g12.below hal5) (by omega) hfew2 (fun k hk => Nat.lt_of_lt_of_le hk hal5.size) (Hm.out _ h56)
   rw [Hyes.out, ← HT.out] at hpp2
   have Hpp2 := Lhd hpp2
   have H56 := Lhd h56
   clear hpr2 hb5 hal5 g12 hpp2 h56
   go_wp2_with (fail)
   refine Hpp2.out.mono ?_
   rintro e w7 ⟨rfl, hb7⟩
   have Hb7 := Lhd (H56.out.trans (hb7.mono H56.out.size))
   clear hb7
   go_wp2_with (fail)
   refine (Haw.out _ Hb7.out).mono ?_
   rintro e w8 ⟨rfl, hb8⟩
   have Hb8 := Lhd (Hb7.out.trans (hb8.mono Hb7.out.size))
   clear hb8
   go_wp2
   go_ret
   exact ⟨rfl, Hb8.out⟩
 ·generalize procX s.data.toList = q at *
  obtain ⟨p, at_, er⟩ := q
  have he : er ≠ 0 := he
  have q0 : (er == 0) = false := by simpa using he
  have q1 : (er != 0) = true := by simpa using he
  have Hp := Lhd hp
  clear he hp hm
  go_enter Tryz.func5, Tryz.ntmps5
  go_wp2_with (fail)
  refine Hp.out.mono ?_
  rintro e w2 ⟨⟨row, rfl, hpr⟩, hb, _⟩
  obtain ⟨Ap, np, cp, Ab, nb, cb, rfl⟩ := pr_row6 hpr
  have hal := (Below.refl w2.heap.size w2).alloc (Nat.le_refl _) (.cells #[.string p.name, .string p.src, .string p.part, .int .i64 p.fuel, .slice Ap np cp, .slice Ab nb cb] 50)
  have Hb := Lhd (hb.trans (hal.mono hb.size))
  clear hb hal hpr
  go_wp2_with (fail)
  refine (Haw.out _ Hb.out).mono ?_
  rintro e w4 ⟨rfl, hb4⟩
  have Hb4 := Lhd (Hb.out.trans (hb4.mono Hb.out.size))
  clear hb4
  go_wp2
  go_ret
  exact ⟨rfl, Hb4.out⟩
end Go.Proofs.YtjpiedpmnnepgaaGreatDoor
