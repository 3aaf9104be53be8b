/- Parts of this proof, one behind the other: RtL, RtM, ParRe, ParZ8, ParZ9. -/
import Derived.Test.YtjpiedpmnnepgaaGreatDoorPz41
import Derived.Test.YtjpiedpmnnepgaaGreatDoorPz22
import Derived.Test.YtjpiedpmnnepgaaGreatDoorPz25
import Derived.Test.YtjpiedpmnnepgaaGreatDoorPz4
import Derived.Deep.Cut
import Derived.Test.YtjpiedpmnnepgaaGreatDoorPz38
set_option maxRecDepth 1000000
set_option maxHeartbeats 40000000
namespace Go.Proofs.YtjpiedpmnnepgaaGreatDoor
open Go.RowKit Go.Afx
def Lx (T : List UInt8) (K : List Key) : Prop := ∀ R ks, Bd R → LexB R ks → LexB (T ++ R) (K ++ ks)
def NumE : Nat → Ex → Prop
 | 0, _ => True
 | d + 1, e => e.n ≤ 9223372036854775807 ∧ ∀ x ∈ e.args, NumE d x
theorem named_of {b : ByteArray} (h : freeB b = true) : namedB b = true := by
 unfold freeB at h
 simp only [Bool.and_eq_true] at h
 exact h.1
theorem Lx.name {b : ByteArray} (h : freeB b = true) : Lx b.data.toList [idK b] := fun _ _ hR hl => lx_name (named_of h) hR hl
theorem Lx.kw {t : List UInt8} (h : namedB (str t) = true) : Lx t [nmK t] := fun _ _ hR hl => lx_kw h hR hl
theorem Lx.sign {t : List UInt8} (h : t ∈ signsL) : Lx t [sgK t] := fun _ _ hR hl => lx_sign h (bd_sign hR) hl
theorem sgnL_lx {op : Int} (h1 : 6 ≤ op) (h2 : op ≤ 18) : Lx (sgnL op) [sgnK op] := by
 obtain rfl | rfl | rfl | rfl | rfl | rfl | rfl | rfl | rfl | rfl | rfl | rfl | rfl : op = 6 ∨ op = 7 ∨ op = 8 ∨ op = 9 ∨ op = 10 ∨ op = 11 ∨ op = 12 ∨ op = 13 ∨ op = 14 ∨ op = 15 ∨ op = 16 ∨ op = 17 ∨ op = 18 := by omega
 ·exact Lx.sign (t := [43]) (by decide)
 ·exact Lx.sign (t := [45]) (by decide)
 ·exact Lx.sign (t := [42]) (by decide)
 ·exact Lx.sign (t := [47]) (by decide)
 ·exact Lx.sign (t := [37]) (by decide)
 ·exact Lx.sign (t := [61]) (by decide)
 ·exact Lx.sign (t := [33, 61]) (by decide)
 ·exact Lx.sign (t := [60]) (by decide)
 ·exact Lx.sign (t := [60, 61]) (by decide)
 ·exact Lx.sign (t := [62, 61]) (by decide)
 ·exact Lx.sign (t := [62]) (by decide)
 ·exact Lx.kw (t := [97, 110, 100]) (by decide +kernel)
 ·exact Lx.kw (t := [111, 114]) (by decide +kernel)
theorem fold_lx {op : Int} (h1 : 21 ≤ op) (h2 : op ≤ 24) : Lx (sgnL op) [sgnK op] := by
 obtain rfl | rfl | rfl | rfl : op = 21 ∨ op = 22 ∨ op = 23 ∨ op = 24 := by omega
 ·exact Lx.kw (t := [99, 111, 117, 110, 116]) (by decide +kernel)
 ·exact Lx.kw (t := [115, 117, 109]) (by decide +kernel)
 ·exact Lx.kw (t := [109, 105, 110]) (by decide +kernel)
 ·exact Lx.kw (t := [109, 97, 120]) (by decide +kernel)
theorem sg1 {c : UInt8} (hc : [c] ∈ signsL ∧ c ≠ 47 ∧ c ≠ 60 ∧ c ≠ 61 ∧ c ≠ 62) {R : List UInt8} {ks : List Key} (h : LexB R ks) : LexB (c :: R) (sgK [c] :: ks) := by
 obtain ⟨hg, h1, h2, h3, h4⟩ := hc
 have hb : ∃ c' r, [c] ++ R = c' :: r ∧ wsB c' = false ∧ ¬ (c'.toNat = 47 ∧ r.head? = some 47) := by
  refine ⟨c, R, rfl, ?_, fun h => h1 (UInt8.toNat_inj.1 h.1)⟩
  simp only [signsL, List.mem_cons, List.not_mem_nil, or_false, List.cons.injEq, and_true] at hg
  simp at hg
  rcases hg with rfl | rfl | rfl | rfl | rfl | rfl | rfl | rfl | rfl | rfl | rfl | rfl | rfl | rfl | rfl | rfl | rfl | rfl
  all_goals decide
 have e : nextX ([c] ++ R) = some ⟨0, [c], 0, 1⟩ := by
  simp only [signsL, List.mem_cons, List.not_mem_nil, or_false, List.cons.injEq, and_true] at hg
  simp at hg
  rcases hg with rfl | rfl | rfl | rfl | rfl | rfl | rfl | rfl | rfl | rfl | rfl | rfl | rfl | rfl | rfl | rfl | rfl | rfl
  all_goals first | exact absurd rfl h1 | exact absurd rfl h2 | exact absurd rfl h3 | exact absurd rfl h4 | (simp [nextX, lexB, signX, signsL, List.isPrefixOf])
 exact lx_word e rfl hb h
theorem lx_opnd {op : Int} (h1 : 1 ≤ op) (h2 : op ≤ 24) (L : Nat) {T : List UInt8} {K : List Key} (h : Lx T K) : Lx (opnd (L : Int) op T) (opndK L op K) := by
 intro R ks hR hl
 have e := lvlN_eq h1 h2
 unfold opnd
 by_cases hc : lvlN op < L
 ·rw [if_pos (by omega), opndK_in hc]
  have e1 : [40] ++ T ++ [41] ++ R = 40 :: (T ++ (41 :: R)) := by simp
  have e2 : [sgK [40]] ++ K ++ [sgK [41]] ++ ks = sgK [40] :: (K ++ (sgK [41] :: ks)) := by simp
  rw [e1, e2]
  exact sg1 (by decide) (h _ _ (bd_cons (by decide) _) (sg1 (by decide) hl))
 ·rw [if_neg (by omega), opndK_out hc]
  exact h R ks hR hl
theorem lx_where {op n : Int} {T : List UInt8} {K : List Key} (h : Lx T K) : Lx (whereT op n T) (whereK op n K) := by
 intro R ks hR hl
 unfold whereT whereK
 by_cases hc : op = 3 ∧ n = 1
 ·rw [if_pos hc, if_pos hc]; exact hl
 ·rw [if_neg hc, if_neg hc]
  have e1 : [32, 119, 104, 101, 114, 101, 32] ++ T ++ R = 32 :: ([119, 104, 101, 114, 101] ++ (32 :: (T ++ R))) := by simp
  rw [e1]
  exact lx_blank (by decide) (lx_kw (by decide +kernel) (bd_cons (by decide) _) (lx_blank (by decide) (h _ _ hR hl)))
theorem lx_rows {name src : ByteArray} {op n : Int} {T : List UInt8} {K : List Key} (h1 : freeB name = true) (h2 : freeB src = true) (h : Lx T K) : Lx (rowsT name src op n T) (rowsK name src op n K) := by
 intro R ks hR hl
 have e1 : rowsT name src op n T ++ R = name.data.toList ++ (32 :: ([105, 110] ++ (32 :: (src.data.toList ++ (whereT op n T ++ R))))) := by unfold rowsT; simp
 have e2 : rowsK name src op n K ++ ks = idK name :: nmK [105, 110] :: idK src :: (whereK op n K ++ ks) := by unfold rowsK; simp
 rw [e1, e2]
 have hb : Bd (whereT op n T ++ R) := by
  unfold whereT
  split
  ·exact hR
  ·exact bd_cons (by decide) _
 exact lx_name (named_of h1) (bd_cons (by decide) _) (lx_blank (by decide) (lx_kw (by decide +kernel) (bd_cons (by decide) _) (lx_blank (by decide) (lx_name (named_of h2) hb (lx_where h _ _ hR hl)))))
/- how texts are laid -/
section
variable {d : Nat} {op n : Int} {s name src : ByteArray} {a b : Ex}
theorem txt_two (h1 : 6 ≤ op) (h2 : op ≤ 18) : txtE (d + 1) (.mk op n s name src [a, b]) = opnd ((lvlN op + if lvlN op = 4 then 1 else 0 : Nat) : Int) a.op (txtE d a) ++ ([32] ++ sgnL op ++ [32]) ++ opnd ((lvlN op + 1 : Nat) : Int) b.op (txtE d b) := by
 have g1 : ¬ op = 1 := by omega
 have g2 : ¬ op = 2 := by omega
 have g3 : ¬ op = 3 := by omega
 have g4 : ¬ op = 4 := by omega
 have g5 : ¬ op = 5 := by omega
 have g6 : ¬ (op = 19 ∨ op = 20) := by omega
 have g7 : ¬ 21 ≤ op := by omega
 have e : ((lvlN op + if lvlN op = 4 then 1 else 0 : Nat) : Int) = lvlZ op + if lvlZ op = 4 then 1 else 0 := by
  rw [lvlN_eq (by omega) (by omega)]
  by_cases h : lvlN op = 4
  ·rw [if_pos h, if_pos (by omega)]; omega
  ·rw [if_neg h, if_neg (by omega)]; omega
 have e2 : ((lvlN op + 1 : Nat) : Int) = lvlZ op + 1 := by rw [lvlN_eq (by omega) (by omega)]; omega
 rw [e, e2]
 simp only [txtE, Ex.op, Ex.args, g1, g2, g3, g4, g5, g6, g7, if_false]
 rfl
theorem txt_one (h : op = 19 ∨ op = 20) : txtE (d + 1) (.mk op n s name src [a]) = sgnL op ++ opnd ((lvlN op : Nat) : Int) a.op (txtE d a) := by
 have g1 : ¬ op = 1 := by omega
 have g2 : ¬ op = 2 := by omega
 have g3 : ¬ op = 3 := by omega
 have g4 : ¬ op = 4 := by omega
 have g5 : ¬ op = 5 := by omega
 rw [← lvlN_eq (by omega) (by omega)]
 simp only [txtE, Ex.op, Ex.args, g1, g2, g3, g4, g5, h, if_false, if_true]
theorem txt_count : txtE (d + 1) (.mk 21 n s name src [a]) = sgnL 21 ++ [40] ++ rowsT name src a.op a.n (txtE d a) ++ [] ++ [41] := rfl
theorem txt_fold (h1 : 22 ≤ op) : txtE (d + 1) (.mk op n s name src [a, b]) = sgnL op ++ [40] ++ rowsT name src a.op a.n (txtE d a) ++ ([58, 32] ++ txtE d b) ++ [41] := by
 have g1 : ¬ op = 1 := by omega
 have g2 : ¬ op = 2 := by omega
 have g3 : ¬ op = 3 := by omega
 have g4 : ¬ op = 4 := by omega
 have g5 : ¬ op = 5 := by omega
 have g6 : ¬ (op = 19 ∨ op = 20) := by omega
 have g7 : 21 ≤ op := by omega
 have g8 : ¬ op = 21 := by omega
 simp only [txtE, Ex.op, Ex.args, Ex.name, Ex.src, g1, g2, g3, g4, g5, g6, g7, g8, if_false, if_true]
end
def Fst (T : List UInt8) : Prop := ∃ c r, T = c :: r ∧ c ≠ 61 ∧ c ≠ 47
theorem lexB_fst {c : UInt8} (h : lexB c = true) : c ≠ 61 ∧ c ≠ 47 := ⟨fun e => by subst e; revert h; decide, fun e => by subst e; revert h; decide⟩
theorem fst_name {b : ByteArray} (h : freeB b = true) : Fst b.data.toList := by
 have hn := named_of h
 unfold namedB at hn
 cases hd : b.data.toList with
 | nil => rw [hd] at hn; cases hn
 | cons c r =>
  rw [hd] at hn
  simp only [Bool.and_eq_true] at hn
  exact ⟨c, r, rfl, lexB_fst (part_lex (by unfold partB; rw [hn.1.2]; rfl))⟩
theorem fst_app {T R : List UInt8} (h : Fst T) : Fst (T ++ R) := by
 obtain ⟨c, r, rfl, h1⟩ := h
 exact ⟨c, r ++ R, rfl, h1⟩
theorem fst_opnd {L op : Int} {T : List UInt8} (h : Fst T) : Fst (opnd L op T) := by
 unfold opnd
 split
 ·exact ⟨40, _, rfl, by decide, by decide⟩
 ·exact h
theorem fst_expr : ∀ (d : Nat) (e : Ex), builtE d e = true → NumE d e → Fst (txtE d e) := by
 intro d
 induction d with
 | zero => intro e h; cases h
 | succ d ih =>
  intro e h hn
  obtain ⟨n1, n2⟩ := hn
  rcases built_cases h with ⟨n, h0, rfl⟩ | ⟨s, _, rfl⟩ | ⟨n, hn, rfl⟩ | ⟨name, hf, rfl⟩ | ⟨s, name, hf, _, rfl⟩ | ⟨op, a, b, h1, h2, ha, _, rfl⟩ | ⟨op, a, h1, ha, rfl⟩ | ⟨name, src, a, _, _, _, rfl⟩ | ⟨op, name, src, a, b, h1, h2, _, _, _, _, rfl⟩
  ·obtain ⟨g1, ⟨c, r, hr⟩, _⟩ := dec_says h0 n1
   exact ⟨c, r, hr, lexB_fst (dg_lex (g1 c (by rw [hr]; simp)))⟩
  ·exact ⟨39, _, rfl, by decide, by decide⟩
  ·rcases hn with rfl | rfl
   ·exact ⟨102, _, rfl, by decide, by decide⟩
   ·exact ⟨116, _, rfl, by decide, by decide⟩
  ·exact fst_name hf
  ·have e : txtE (d + 1) (.mk 5 0 s name nil0 []) = name.data.toList ++ [46] ++ s.data.toList := rfl
   rw [e]
   exact fst_app (fst_app (fst_name hf))
  ·unfold twoP
   rw [txt_two h1 h2]
   exact fst_app (fst_app (fst_opnd (ih a ha (n2 a (by simp [twoP, Ex.args])))))
  ·unfold oneP
   rw [txt_one h1]
   rcases h1 with rfl | rfl
   ·exact ⟨110, _, rfl, by decide, by decide⟩
   ·exact ⟨45, _, rfl, by decide, by decide⟩
  ·exact ⟨99, _, rfl, by decide, by decide⟩
  ·rw [txt_fold h1]
   refine fst_app (fst_app (fst_app (fst_app ?_)))
   obtain rfl | rfl | rfl : op = 22 ∨ op = 23 ∨ op = 24 := by omega
   ·exact ⟨115, _, rfl, by decide, by decide⟩
   ·exact ⟨109, _, rfl, by decide, by decide⟩
   ·exact ⟨109, _, rfl, by decide, by decide⟩
theorem lx_expr : ∀ (d : Nat) (e : Ex), builtE d e = true → nlE d e = false → NumE d e → Lx (txtE d e) (tokE d e) := by
 intro d
 induction d with
 | zero => intro e h; cases h
 | succ d ih =>
  intro e h hnl hn
  obtain ⟨n1, n2⟩ := hn
  rw [nlE] at hnl
  simp only [Bool.or_eq_false_iff] at hnl
  obtain ⟨l1, l2⟩ := hnl
  have l2 := List.any_eq_false.1 l2
  have sub : ∀ x ∈ e.args, builtE d x = true → Lx (txtE d x) (tokE d x) := fun x hx hb => ih x hb (by simpa using l2 x hx) (n2 x hx)
  rcases built_cases h with ⟨n, h0, rfl⟩ | ⟨s, hs, rfl⟩ | ⟨n, hn, rfl⟩ | ⟨name, hf, rfl⟩ | ⟨s, name, hf, hs, rfl⟩ | ⟨op, a, b, h1, h2, ha, hb, rfl⟩ | ⟨op, a, h1, ha, rfl⟩ | ⟨name, src, a, h1, h2, ha, rfl⟩ | ⟨op, name, src, a, b, g1, g2, h1, h2, ha, hb, rfl⟩
  ·exact fun R ks hR hl => lx_num h0 n1 hR hl
  ·exact fun R ks hR hl => lx_quote hs (by simpa [Ex.op, Ex.s] using l1) hR hl
  ·rcases hn with rfl | rfl
   ·exact fun R ks hR hl => lx_kw (t := falseL) (by decide +kernel) hR hl
   ·exact fun R ks hR hl => lx_kw (t := trueL) (by decide +kernel) hR hl
  ·exact fun R ks hR hl => lx_name (named_of hf) hR hl
  ·intro R ks hR hl
   have e1 : txtE (d + 1) (.mk 5 0 s name nil0 []) ++ R = name.data.toList ++ (46 :: (s.data.toList ++ R)) := by
    have : txtE (d + 1) (.mk 5 0 s name nil0 []) = name.data.toList ++ [46] ++ s.data.toList := rfl
    rw [this]; simp
   rw [e1]
   exact lx_name (named_of hf) (bd_cons (by decide) _) (sg1 (by decide) (lx_name (named_of hs) hR hl))
  ·intro R ks hR hl
   have sa := sub a (by simp [twoP, Ex.args]) ha
   have sb := sub b (by simp [twoP, Ex.args]) hb
   have oa := built_op ha
   have ob := built_op hb
   unfold twoP
   rw [txt_two h1 h2, tok_two h1 h2]
   have e1 : ∀ X Y : List UInt8, X ++ ([32] ++ sgnL op ++ [32]) ++ Y ++ R = X ++ (32 :: (sgnL op ++ (32 :: (Y ++ R)))) := fun X Y => by simp
   have e2 : ∀ X Y : List Key, X ++ (sgnK op :: Y) ++ ks = X ++ (sgnK op :: (Y ++ ks)) := fun X Y => by simp
   rw [e1, e2]
   exact lx_opnd oa.1 oa.2 _ sa _ _ (bd_cons (by decide) _) (lx_blank (by decide) (sgnL_lx h1 h2 _ _ (bd_cons (by decide) _) (lx_blank (by decide) (lx_opnd ob.1 ob.2 _ sb _ _ hR hl))))
  ·intro R ks hR hl
   have sa := sub a (by simp [oneP, Ex.args]) ha
   have oa := built_op ha
   have fa : Fst (txtE d a) := fst_expr d a ha (n2 a (by simp [oneP, Ex.args]))
   unfold oneP
   rw [txt_one h1, tok_one h1]
   rcases h1 with rfl | rfl
   ·have e1 : ∀ X : List UInt8, sgnL 19 ++ X ++ R = [110, 111, 116] ++ (32 :: (X ++ R)) := fun X => by
     have : sgnL 19 = [110, 111, 116, 32] := rfl
     rw [this]; simp
    rw [e1]
    exact lx_kw (t := [110, 111, 116]) (by decide +kernel) (bd_cons (by decide) _) (lx_blank (by decide) (lx_opnd oa.1 oa.2 _ sa _ _ hR hl))
   ·have e1 : ∀ X : List UInt8, sgnL 20 ++ X ++ R = [45] ++ (X ++ R) := fun X => by
     have : sgnL 20 = [45] := rfl
     rw [this]; simp
    rw [e1]
    refine lx_sign (g := [45]) (by decide) (fun c hc => ?_) (lx_opnd oa.1 oa.2 _ sa _ _ hR hl)
    obtain ⟨c2, r, hr, h2⟩ := fst_app (R := R) (fst_opnd (L := ((lvlN 20 : Nat) : Int)) (op := a.op) fa)
    rw [hr] at hc
    cases hc
    exact h2
  ·intro R ks hR hl
   have sa := sub a (by simp [Ex.args]) ha
   rw [txt_count, tok_count]
   have e1 : ∀ X : List UInt8, sgnL 21 ++ [40] ++ X ++ [] ++ [41] ++ R = sgnL 21 ++ (40 :: (X ++ (41 :: R))) := fun X => by simp
   have e2 : ∀ X : List Key, [sgnK 21, sgK [40]] ++ (X ++ [sgK [41]]) ++ ks = sgnK 21 :: (sgK [40] :: (X ++ (sgK [41] :: ks))) := fun X => by simp
   rw [e1, e2]
   exact fold_lx (by omega) (by omega) _ _ (bd_cons (by decide) _) (sg1 (by decide) (lx_rows h1 h2 sa _ _ (bd_cons (by decide) _) (sg1 (by decide) hl)))
  ·intro R ks hR hl
   have sa := sub a (by simp [Ex.args]) ha
   have sb := sub b (by simp [Ex.args]) hb
   rw [txt_fold g1, tok_fold g1]
   have e1 : ∀ X Y : List UInt8, sgnL op ++ [40] ++ X ++ ([58, 32] ++ Y) ++ [41] ++ R = sgnL op ++ (40 :: (X ++ (58 :: (32 :: (Y ++ (41 :: R)))))) := fun X Y => by simp
   have e2 : ∀ X Y : List Key, [sgnK op, sgK [40]] ++ (X ++ (sgK [58] :: (Y ++ [sgK [41]]))) ++ ks = sgnK op :: (sgK [40] :: (X ++ (sgK [58] :: (Y ++ (sgK [41] :: ks))))) := fun X Y => by simp
   rw [e1, e2]
   exact fold_lx (by omega) g2 _ _ (bd_cons (by decide) _) (sg1 (by decide) (lx_rows h1 h2 sa _ _ (bd_cons (by decide) _) (sg1 (by decide) (lx_blank (by decide) (sb _ _ (bd_cons (by decide) _) (sg1 (by decide) hl))))))
open Go.RowKit Go.Afx
def NumS : Nat → St → Prop
 | 0, _ => True
 | d + 1, x => (∀ e ∈ x.exprs, NumE d e) ∧ (∀ b ∈ x.body, NumS d b) ∧ ∀ b ∈ x.els, NumS d b
theorem lx_seps {α : Type} {T : α → List UInt8} {K : α → List Key} : ∀ (xs : List α), (∀ x ∈ xs, Lx (T x) (K x)) → Lx (sepsT (xs.map T)) (sepsK (xs.map K)) := by
 intro xs
 induction xs with
 | nil => exact fun _ R ks _ hl => hl
 | cons x xs ih =>
  intro h R ks hR hl
  have e1 : sepsT ((x :: xs).map T) ++ R = 44 :: (32 :: (T x ++ (sepsT (xs.map T) ++ R))) := by simp [sepsT]
  have e2 : sepsK ((x :: xs).map K) ++ ks = sgK [44] :: (K x ++ (sepsK (xs.map K) ++ ks)) := by simp [sepsK]
  rw [e1, e2]
  have hb : Bd (sepsT (xs.map T) ++ R) := by
   cases xs with
   | nil => exact hR
   | cons y ys => exact bd_cons (by decide) _
  exact sg1 (by decide) (lx_blank (by decide) (h x (by simp) _ _ hb (ih (fun y hy => h y (by simp [hy])) R ks hR hl)))
theorem lx_join {α : Type} {T : α → List UInt8} {K : α → List Key} (xs : List α) (h : ∀ x ∈ xs, Lx (T x) (K x)) : Lx (joinT (xs.map T)) (joinK (xs.map K)) := by
 intro R ks hR hl
 cases xs with
 | nil => exact hl
 | cons x xs =>
  have e1 : joinT ((x :: xs).map T) ++ R = T x ++ (sepsT (xs.map T) ++ R) := by simp [joinT]
  have e2 : joinK ((x :: xs).map K) ++ ks = K x ++ (sepsK (xs.map K) ++ ks) := by simp [joinK]
  rw [e1, e2]
  have hb : Bd (sepsT (xs.map T) ++ R) := by
   cases xs with
   | nil => exact hR
   | cons y ys => exact bd_cons (by decide) _
  exact h x (by simp) _ _ hb (lx_seps xs (fun y hy => h y (by simp [hy])) R ks hR hl)
def setTx (d : Nat) (x : ByteArray × Ex) : List UInt8 := x.1.data.toList ++ [32, 61, 32] ++ txtE d x.2
theorem setsT_zip (d : Nat) : ∀ (cs : List ByteArray) (es : List Ex), setsT d cs es = (cs.zip es).map (setTx d) := by
 intro cs
 induction cs with
 | nil => intro es; cases es <;> rfl
 | cons c cs ih =>
  intro es
  cases es with
  | nil => rfl
  | cons e es =>
   rw [List.zip_cons_cons, List.map_cons, ← ih]
   rfl
theorem lx_eq {R : List UInt8} {ks : List Key} (h : LexB R ks) : LexB (32 :: ([61] ++ (32 :: R))) (sgK [61] :: ks) :=
 lx_blank (by decide) (lx_sign (g := [61]) (by decide) (fun c hc => by cases hc; decide) (lx_blank (by decide) h))
theorem lx_set {d : Nat} {x : ByteArray × Ex} (h1 : freeB x.1 = true) (h2 : Lx (txtE d x.2) (tokE d x.2)) : Lx (setTx d x) (setK d x) := by
 intro R ks hR hl
 have e1 : setTx d x ++ R = x.1.data.toList ++ (32 :: ([61] ++ (32 :: (txtE d x.2 ++ R)))) := by unfold setTx; simp
 have e2 : setK d x ++ ks = idK x.1 :: (sgK [61] :: (tokE d x.2 ++ ks)) := rfl
 rw [e1, e2]
 exact lx_name (named_of h1) (bd_cons (by decide) _) (lx_eq (h2 _ _ hR hl))
def limitT (n : Int) : List UInt8 := if 0 < n then [32, 108, 105, 109, 105, 116, 32] ++ decS n else []
theorem lx_limit {n : Int} (h0 : 0 ≤ n) (h1 : n ≤ 1000) : Lx (limitT n) (limitK n) := by
 intro R ks hR hl
 unfold limitT limitK
 by_cases h : 0 < n
 ·rw [if_pos h, if_pos h]
  have e1 : [32, 108, 105, 109, 105, 116, 32] ++ decS n ++ R = 32 :: ([108, 105, 109, 105, 116] ++ (32 :: (decS n ++ R))) := by simp
  rw [e1]
  exact lx_blank (by decide) (lx_kw (by decide +kernel) (bd_cons (by decide) _) (lx_blank (by decide) (lx_num h0 (by omega) hR hl)))
 ·rw [if_neg h, if_neg h]; exact hl
theorem bd_limit {n : Int} {R : List UInt8} (hR : Bd R) : Bd (limitT n ++ R) := by
 unfold limitT
 split
 ·exact bd_cons (by decide) _
 ·exact hR
theorem lx_lines {d k : Nat} : ∀ (xs : List St), (∀ x ∈ xs, Lx (txtS d (k + 1) x) (tokS d x)) → ∀ R ks, LexB R ks → LexB ((xs.flatMap fun x => indT (k + 1) ++ txtS d (k + 1) x ++ [10]) ++ R) (xs.flatMap (tokS d) ++ ks) := by
 intro xs
 induction xs with
 | nil => exact fun _ R ks hl => hl
 | cons x xs ih =>
  intro h R ks hl
  have e1 : ((x :: xs).flatMap fun x => indT (k + 1) ++ txtS d (k + 1) x ++ [10]) ++ R = indT (k + 1) ++ (txtS d (k + 1) x ++ (10 :: ((xs.flatMap fun x => indT (k + 1) ++ txtS d (k + 1) x ++ [10]) ++ R))) := by simp
  have e2 : (x :: xs).flatMap (tokS d) ++ ks = tokS d x ++ (xs.flatMap (tokS d) ++ ks) := by simp
  rw [e1, e2]
  exact lx_blanks (h x (by simp) _ _ (bd_cons (by decide) _) (lx_blank (by decide) (ih (fun y hy => h y (by simp [hy])) R ks hl)))
theorem lx_block {d k : Nat} {xs : List St} (h : ∀ x ∈ xs, Lx (txtS d (k + 1) x) (tokS d x)) {R : List UInt8} {ks : List Key} (hl : LexB R ks) : LexB (blockT (txtS d) k xs ++ R) (blockK (tokS d) xs ++ ks) := by
 unfold blockT blockK
 by_cases hx : xs = []
 ·subst hx
  rw [if_pos rfl]
  exact sg1 (c := 123) (by decide) (sg1 (c := 125) (by decide) hl)
 ·rw [if_neg hx]
  have e1 : [123, 10] ++ (xs.flatMap fun x => indT (k + 1) ++ txtS d (k + 1) x ++ [10]) ++ indT k ++ [125] ++ R = 123 :: (10 :: ((xs.flatMap fun x => indT (k + 1) ++ txtS d (k + 1) x ++ [10]) ++ (indT k ++ (125 :: R)))) := by simp
  have e2 : sgK [123] :: (xs.flatMap (tokS d) ++ [sgK [125]]) ++ ks = sgK [123] :: (xs.flatMap (tokS d) ++ (sgK [125] :: ks)) := by simp
  rw [e1, e2]
  exact sg1 (by decide) (lx_blank (by decide) (lx_lines xs h _ _ (lx_blanks (sg1 (by decide) hl))))
theorem lx_stmt : ∀ (d : Nat) (x : St), builtS d x = true → nlS d x = false → NumS d x → ∀ k, Lx (txtS d k x) (tokS d x) := by
 intro d
 induction d with
 | zero => intro x h; cases h
 | succ d ih =>
  intro x h hnl hn k R ks hR hl
  obtain ⟨n1, n2, n3⟩ := hn
  rw [nlS] at hnl
  simp only [Bool.or_eq_false_iff] at hnl
  obtain ⟨⟨l1, l2⟩, l3⟩ := hnl
  have l1 := List.any_eq_false.1 l1
  have l2 := List.any_eq_false.1 l2
  have l3 := List.any_eq_false.1 l3
  have sub : ∀ e ∈ x.exprs, builtE d e = true → Lx (txtE d e) (tokE d e) := fun e he hb => lx_expr d e hb (by simpa using l1 e he) (n1 e he)
  have subB : ∀ b ∈ x.body, builtS d b = true → ∀ k, Lx (txtS d k b) (tokS d b) := fun b hm hb => ih b hb (by simpa using l2 b hm) (n2 b hm)
  have subE : ∀ b ∈ x.els, builtS d b = true → ∀ k, Lx (txtS d k b) (tokS d b) := fun b hm hb => ih b hb (by simpa using l3 b hm) (n3 b hm)
  have semi : LexB (59 :: R) (sgK [59] :: ks) := sg1 (by decide) hl
  have bsemi : Bd (59 :: R) := bd_cons (by decide) _
  rcases stmt_cases h with ⟨op, name, e, ho, hf, hb, rfl⟩ | ⟨op, src, es, ho, hf, hne, hb, rfl⟩ | ⟨name, src, cols, a, es, h1, h2, hne, hlen, hc, ha, hb, rfl⟩ | ⟨name, src, a, h1, h2, ha, rfl⟩ | ⟨name, src, n, a, body, h1, h2, h3, h4, ha, hb, rfl⟩ | ⟨a, body, els, ha, hb, hel, rfl⟩ | ⟨a, ha, rfl⟩ | ⟨es, hne, hb, rfl⟩
  ·have se := sub e (by simp [St.exprs]) hb
   rcases ho with rfl | rfl
   ·have e1 : txtS (d + 1) k (.mk 1 name nil0 0 [] [e] [] []) ++ R = [108, 101, 116] ++ (32 :: (name.data.toList ++ (32 :: ([61] ++ (32 :: (txtE d e ++ (59 :: R))))))) := by
     have : txtS (d + 1) k (.mk 1 name nil0 0 [] [e] [] []) = [108, 101, 116, 32] ++ name.data.toList ++ [32, 61, 32] ++ joinT ([e].map (txtE d)) ++ [59] := rfl
     rw [this]; simp [joinT, sepsT]
    have e2 : tokS (d + 1) (.mk 1 name nil0 0 [] [e] [] []) ++ ks = nmK [108, 101, 116] :: (idK name :: (sgK [61] :: (tokE d e ++ (sgK [59] :: ks)))) := by
     have : tokS (d + 1) (.mk 1 name nil0 0 [] [e] [] []) = (nmK [108, 101, 116] :: idK name :: sgK [61] :: exprsK d [e]) ++ [sgK [59]] := rfl
     rw [this, exprsK_one]; simp
    rw [e1, e2]
    exact lx_kw (by decide +kernel) (bd_cons (by decide) _) (lx_blank (by decide) (lx_name (named_of hf) (bd_cons (by decide) _) (lx_eq (se _ _ bsemi semi))))
   ·have e1 : txtS (d + 1) k (.mk 2 name nil0 0 [] [e] [] []) ++ R = [115, 101, 116] ++ (32 :: (name.data.toList ++ (32 :: ([61] ++ (32 :: (txtE d e ++ (59 :: R))))))) := by
     have : txtS (d + 1) k (.mk 2 name nil0 0 [] [e] [] []) = [115, 101, 116, 32] ++ name.data.toList ++ [32, 61, 32] ++ joinT ([e].map (txtE d)) ++ [59] := rfl
     rw [this]; simp [joinT, sepsT]
    have e2 : tokS (d + 1) (.mk 2 name nil0 0 [] [e] [] []) ++ ks = nmK [115, 101, 116] :: (idK name :: (sgK [61] :: (tokE d e ++ (sgK [59] :: ks)))) := by
     have : tokS (d + 1) (.mk 2 name nil0 0 [] [e] [] []) = (nmK [115, 101, 116] :: idK name :: sgK [61] :: exprsK d [e]) ++ [sgK [59]] := rfl
     rw [this, exprsK_one]; simp
    rw [e1, e2]
    exact lx_kw (by decide +kernel) (bd_cons (by decide) _) (lx_blank (by decide) (lx_name (named_of hf) (bd_cons (by decide) _) (lx_eq (se _ _ bsemi semi))))
  ·have sj : Lx (joinT (es.map (txtE d))) (exprsK d es) := lx_join es (fun e he => sub e he (hb e he))
   rcases ho with rfl | rfl
   ·have e1 : txtS (d + 1) k (.mk 3 nil0 src 0 [] es [] []) ++ R = [105, 110, 115, 101, 114, 116] ++ (32 :: (src.data.toList ++ (40 :: (joinT (es.map (txtE d)) ++ (41 :: (59 :: R)))))) := by
     have : txtS (d + 1) k (.mk 3 nil0 src 0 [] es [] []) = [105, 110, 115, 101, 114, 116, 32] ++ src.data.toList ++ [40] ++ joinT (es.map (txtE d)) ++ [41] ++ [59] := rfl
     rw [this]; simp
    have e2 : tokS (d + 1) (.mk 3 nil0 src 0 [] es [] []) ++ ks = nmK [105, 110, 115, 101, 114, 116] :: (idK src :: (sgK [40] :: (exprsK d es ++ (sgK [41] :: (sgK [59] :: ks))))) := by
     have : tokS (d + 1) (.mk 3 nil0 src 0 [] es [] []) = (nmK [105, 110, 115, 101, 114, 116] :: idK src :: sgK [40] :: (exprsK d es ++ [sgK [41]])) ++ [sgK [59]] := rfl
     rw [this]; simp
    rw [e1, e2]
    exact lx_kw (by decide +kernel) (bd_cons (by decide) _) (lx_blank (by decide) (lx_name (named_of hf) (bd_cons (by decide) _) (sg1 (by decide) (sj _ _ (bd_cons (by decide) _) (sg1 (by decide) semi)))))
   ·have e1 : txtS (d + 1) k (.mk 8 nil0 src 0 [] es [] []) ++ R = [101, 109, 105, 116] ++ (32 :: (src.data.toList ++ (40 :: (joinT (es.map (txtE d)) ++ (41 :: (59 :: R)))))) := by
     have : txtS (d + 1) k (.mk 8 nil0 src 0 [] es [] []) = [101, 109, 105, 116, 32] ++ src.data.toList ++ [40] ++ joinT (es.map (txtE d)) ++ [41] ++ [59] := rfl
     rw [this]; simp
    have e2 : tokS (d + 1) (.mk 8 nil0 src 0 [] es [] []) ++ ks = nmK [101, 109, 105, 116] :: (idK src :: (sgK [40] :: (exprsK d es ++ (sgK [41] :: (sgK [59] :: ks))))) := by
     have : tokS (d + 1) (.mk 8 nil0 src 0 [] es [] []) = (nmK [101, 109, 105, 116] :: idK src :: sgK [40] :: (exprsK d es ++ [sgK [41]])) ++ [sgK [59]] := rfl
     rw [this]; simp
    rw [e1, e2]
    exact lx_kw (by decide +kernel) (bd_cons (by decide) _) (lx_blank (by decide) (lx_name (named_of hf) (bd_cons (by decide) _) (sg1 (by decide) (sj _ _ (bd_cons (by decide) _) (sg1 (by decide) semi)))))
  ·have sa := sub a (by simp [St.exprs]) ha
   have sj : Lx (joinT ((cols.zip es).map (setTx d))) (joinK ((cols.zip es).map (setK d))) := lx_join _ (fun x hx => lx_set (hc _ (List.of_mem_zip hx).1) (sub x.2 (by simp [St.exprs, (List.of_mem_zip hx).2]) (hb _ (List.of_mem_zip hx).2)))
   have e1 : txtS (d + 1) k (.mk 4 name src 0 cols (a :: es) [] []) ++ R = [117, 112, 100, 97, 116, 101] ++ (32 :: (rowsT name src a.op a.n (txtE d a) ++ (32 :: ([115, 101, 116] ++ (32 :: (joinT ((cols.zip es).map (setTx d)) ++ (59 :: R))))))) := by
    have : txtS (d + 1) k (.mk 4 name src 0 cols (a :: es) [] []) = [117, 112, 100, 97, 116, 101, 32] ++ rowsT name src a.op a.n (txtE d a) ++ [32, 115, 101, 116, 32] ++ joinT (setsT d cols es) ++ [59] := rfl
    rw [this, setsT_zip]; simp
   have e2 : tokS (d + 1) (.mk 4 name src 0 cols (a :: es) [] []) ++ ks = nmK [117, 112, 100, 97, 116, 101] :: (rowsK name src a.op a.n (tokE d a) ++ (nmK [115, 101, 116] :: (joinK ((cols.zip es).map (setK d)) ++ (sgK [59] :: ks)))) := by
    have : tokS (d + 1) (.mk 4 name src 0 cols (a :: es) [] []) = (nmK [117, 112, 100, 97, 116, 101] :: (rowsK name src a.op a.n (tokE d a) ++ (nmK [115, 101, 116] :: joinK ((cols.zip es).map (setK d))))) ++ [sgK [59]] := rfl
    rw [this]; simp
   rw [e1, e2]
   exact lx_kw (by decide +kernel) (bd_cons (by decide) _) (lx_blank (by decide) (lx_rows h1 h2 sa _ _ (bd_cons (by decide) _) (lx_blank (by decide) (lx_kw (by decide +kernel) (bd_cons (by decide) _) (lx_blank (by decide) (sj _ _ bsemi semi))))))
  ·have sa := sub a (by simp [St.exprs]) ha
   have e1 : txtS (d + 1) k (.mk 5 name src 0 [] [a] [] []) ++ R = [100, 101, 108, 101, 116, 101] ++ (32 :: (rowsT name src a.op a.n (txtE d a) ++ (59 :: R))) := by
    have : txtS (d + 1) k (.mk 5 name src 0 [] [a] [] []) = [100, 101, 108, 101, 116, 101, 32] ++ rowsT name src a.op a.n (txtE d a) ++ [59] := rfl
    rw [this]; simp
   have e2 : tokS (d + 1) (.mk 5 name src 0 [] [a] [] []) ++ ks = nmK [100, 101, 108, 101, 116, 101] :: (rowsK name src a.op a.n (tokE d a) ++ (sgK [59] :: ks)) := by
    have : tokS (d + 1) (.mk 5 name src 0 [] [a] [] []) = (nmK [100, 101, 108, 101, 116, 101] :: rowsK name src a.op a.n (tokE d a)) ++ [sgK [59]] := rfl
    rw [this]; simp
   rw [e1, e2]
   exact lx_kw (by decide +kernel) (bd_cons (by decide) _) (lx_blank (by decide) (lx_rows h1 h2 sa _ _ bsemi semi))
  ·have sa := sub a (by simp [St.exprs]) ha
   have e1 : txtS (d + 1) k (.mk 6 name src n [] [a] body []) ++ R = [102, 111, 114] ++ (32 :: (rowsT name src a.op a.n (txtE d a) ++ (limitT n ++ (32 :: (blockT (txtS d) k body ++ R))))) := by
    have : txtS (d + 1) k (.mk 6 name src n [] [a] body []) = [102, 111, 114, 32] ++ rowsT name src a.op a.n (txtE d a) ++ limitT n ++ [32] ++ blockT (txtS d) k body := rfl
    rw [this]; simp
   have e2 : tokS (d + 1) (.mk 6 name src n [] [a] body []) ++ ks = nmK [102, 111, 114] :: (rowsK name src a.op a.n (tokE d a) ++ (limitK n ++ (blockK (tokS d) body ++ ks))) := by
    have : tokS (d + 1) (.mk 6 name src n [] [a] body []) = nmK [102, 111, 114] :: (rowsK name src a.op a.n (tokE d a) ++ (limitK n ++ blockK (tokS d) body)) := rfl
    rw [this]; simp
   rw [e1, e2]
   exact lx_kw (by decide +kernel) (bd_cons (by decide) _) (lx_blank (by decide) (lx_rows h1 h2 sa _ _ (bd_limit (bd_cons (by decide) _)) (lx_limit h3 h4 _ _ (bd_cons (by decide) _) (lx_blank (by decide) (lx_block (fun x hx => subB x hx (hb x hx) _) hl)))))
  ·have sa := sub a (by simp [St.exprs]) ha
   have e1 : txtS (d + 1) k (.mk 7 nil0 nil0 0 [] [a] body els) ++ R = [105, 102] ++ (32 :: (txtE d a ++ (32 :: (blockT (txtS d) k body ++ ((if els = [] then [] else [32, 101, 108, 115, 101, 32] ++ blockT (txtS d) k els) ++ R))))) := by
    have : txtS (d + 1) k (.mk 7 nil0 nil0 0 [] [a] body els) = [105, 102, 32] ++ txtE d a ++ [32] ++ blockT (txtS d) k body ++ (if els = [] then [] else [32, 101, 108, 115, 101, 32] ++ blockT (txtS d) k els) := rfl
    rw [this]; simp only [List.append_assoc, List.cons_append, List.nil_append]
   have e2 : tokS (d + 1) (.mk 7 nil0 nil0 0 [] [a] body els) ++ ks = nmK [105, 102] :: (tokE d a ++ (blockK (tokS d) body ++ ((if els = [] then [] else nmK [101, 108, 115, 101] :: blockK (tokS d) els) ++ ks))) := by
    have : tokS (d + 1) (.mk 7 nil0 nil0 0 [] [a] body els) = nmK [105, 102] :: (tokE d a ++ (blockK (tokS d) body ++ (if els = [] then [] else nmK [101, 108, 115, 101] :: blockK (tokS d) els))) := rfl
    rw [this]; simp only [List.append_assoc, List.cons_append]
   rw [e1, e2]
   refine lx_kw (by decide +kernel) (bd_cons (by decide) _) (lx_blank (by decide) (sa _ _ (bd_cons (by decide) _) (lx_blank (by decide) (lx_block (fun x hx => subB x hx (hb x hx) _) ?_))))
   by_cases hz : els = []
   ·rw [if_pos hz, if_pos hz]; exact hl
   ·rw [if_neg hz, if_neg hz]
    have e3 : [32, 101, 108, 115, 101, 32] ++ blockT (txtS d) k els ++ R = 32 :: ([101, 108, 115, 101] ++ (32 :: (blockT (txtS d) k els ++ R))) := by simp
    rw [e3]
    exact lx_blank (by decide) (lx_kw (by decide +kernel) (bd_cons (by decide) _) (lx_blank (by decide) (lx_block (fun x hx => subE x hx (hel x hx) _) hl)))
  ·have se := sub a (by simp [St.exprs]) ha
   have e1 : txtS (d + 1) k (.mk 9 nil0 nil0 0 [] [a] [] []) ++ R = [97, 98, 111, 114, 116] ++ (32 :: (txtE d a ++ (59 :: R))) := by
    have : txtS (d + 1) k (.mk 9 nil0 nil0 0 [] [a] [] []) = [97, 98, 111, 114, 116, 32] ++ joinT ([a].map (txtE d)) ++ [59] := rfl
    rw [this]; simp [joinT, sepsT]
   have e2 : tokS (d + 1) (.mk 9 nil0 nil0 0 [] [a] [] []) ++ ks = nmK [97, 98, 111, 114, 116] :: (tokE d a ++ (sgK [59] :: ks)) := by
    have : tokS (d + 1) (.mk 9 nil0 nil0 0 [] [a] [] []) = (nmK [97, 98, 111, 114, 116] :: exprsK d [a]) ++ [sgK [59]] := rfl
    rw [this, exprsK_one]; simp
   rw [e1, e2]
   exact lx_kw (by decide +kernel) (bd_cons (by decide) _) (lx_blank (by decide) (se _ _ bsemi semi))
  ·have sj : Lx (joinT (es.map (txtE d))) (exprsK d es) := lx_join es (fun e he => sub e he (hb e he))
   have e1 : txtS (d + 1) k (.mk 10 nil0 nil0 0 [] es [] []) ++ R = [114, 101, 112, 108, 121] ++ (32 :: (joinT (es.map (txtE d)) ++ (59 :: R))) := by
    have : txtS (d + 1) k (.mk 10 nil0 nil0 0 [] es [] []) = [114, 101, 112, 108, 121, 32] ++ joinT (es.map (txtE d)) ++ [59] := rfl
    rw [this]; simp
   have e2 : tokS (d + 1) (.mk 10 nil0 nil0 0 [] es [] []) ++ ks = nmK [114, 101, 112, 108, 121] :: (exprsK d es ++ (sgK [59] :: ks)) := by
    have : tokS (d + 1) (.mk 10 nil0 nil0 0 [] es [] []) = (nmK [114, 101, 112, 108, 121] :: exprsK d es) ++ [sgK [59]] := rfl
    rw [this]; simp
   rw [e1, e2]
   exact lx_kw (by decide +kernel) (bd_cons (by decide) _) (lx_blank (by decide) (sj _ _ bsemi semi))
def rgtE (d : Nat) (e : Ex) : Bool := smallZ (sizeE d 0 e) && builtE d e
def exprX (L : List UInt8) : Ex × Int × Int := textX ex0 (rgtE 9000) expr1 L
def SaidExpr (gx : Nat) (w : World) (x : Ex × Int × Int) (e : Ending) (w' : World) : Prop := e = .returned (.tuple #[.int .i64 x.2.1, .int .i64 x.2.2]) ∧ But (fun k => k = gx) w w' ∧ (x.2.2 = 0 → (∃ row, IsBlk w' gx 32 row.toArray ∧ ExAt (Fr w) 9000 w' row x.1))
def ExprGives (w : World) (x : Ex × Int × Int) (e : Ending) (w' : World) : Prop := (∃ row, e = .returned (.tuple #[.agg row.toArray, .int .i64 x.2.1, .int .i64 x.2.2]) ∧ ExAt (Fr w) 9000 w' row x.1) ∧ Below w.heap.size w w'
end Go.Proofs.YtjpiedpmnnepgaaGreatDoor
