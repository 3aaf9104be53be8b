/- Parts of this proof, one behind the other: RtI, RtJ, RtK. -/
import Derived.Test.YtjpiedpmnnepgaaGreatDoorPz40
import Derived.Test.YtjpiedpmnnepgaaGreatDoorPz38
set_option maxRecDepth 1000000
set_option maxHeartbeats 40000000
namespace Go.Afx
open Go.RowKit
section
variable {d : Nat} {W : Wds} {i : Nat} {k : Int} {rest : List Key}
theorem exprsK_one (e : Ex) : exprsK d [e] = tokE d e := by unfold exprsK joinK sepsK; simp
theorem assign_at {op : Int} {name : ByteArray} {e : Ex} (hf : freeB name = true) (hb : builtE d e = true) (hA : At W i (idK name :: sgK [61] :: (tokE d e ++ rest))) (hn : NoOp 1 rest) (h0 : 0 ≤ k) (hk : k + 2 * (dptE d e : Int) ≤ 61) : assignP W op (stK i k) = (.mk op name nil0 0 [] [e] [] [], stK (i + 1 + 1 + (tokE d e).length) k) := by
 unfold assignP
 simp only
 rw [name_at hA (free_res hf)]
 simp only
 rw [must_at hA.next (show keySays (sgK [61]) (str [61]) = true by decide +kernel), expr1_at hb hA.next.next hn h0 hk]
theorem into_at {op : Int} {src : ByteArray} {es : List Ex} (hf : freeB src = true) (hne : es ≠ []) (hb : ∀ e ∈ es, builtE d e = true) (hA : At W i (idK src :: sgK [40] :: (exprsK d es ++ (sgK [41] :: rest)))) (h0 : 0 ≤ k) (h1 : k < 60) (hk : ∀ e ∈ es, k + 1 + 2 * (dptE d e : Int) ≤ 61) : intoP W op (stK i k) = (.mk op nil0 src 0 [] es [] [], stK (i + 1 + 1 + (exprsK d es).length + 1) k) := by
 unfold intoP
 simp only
 rw [name_at hA (free_res hf)]
 simp only
 rw [must_at hA.next (show keySays (sgK [40]) (str [40]) = true by decide +kernel), enter_at h0 h1, exprs_at hne hb hA.next.next (noop_of (by decide +kernel)) (by show keySays (sgK [41]) _ = false; decide +kernel) (by omega) hk]
 simp only
 rw [must_at hA.next.next.skip (show keySays (sgK [41]) (str [41]) = true by decide +kernel), leave_at h0 h1]
theorem set_at {x : ByteArray × Ex} (hf : freeB x.1 = true) (hb : builtE d x.2 = true) (hA : At W i (setK d x ++ rest)) (hn : NoOp 1 rest) (h0 : 0 ≤ k) (hk : k + 2 * (dptE d x.2 : Int) ≤ 61) : setP W (stK i k) = (x, stK (i + (setK d x).length) k) := by
 obtain ⟨c, e⟩ := x
 have hA : At W i (idK c :: sgK [61] :: (tokE d e ++ rest)) := hA
 unfold setP setK
 simp only
 rw [name_at hA (free_res hf)]
 simp only
 rw [must_at hA.next (show keySays (sgK [61]) (str [61]) = true by decide +kernel), expr1_at hb hA.next.next hn h0 hk]
 simp only [List.length_cons]
 congr 2
 omega
theorem rows_where {name src : ByteArray} {a : Ex} (h1 : freeB name = true) (h2 : freeB src = true) (hb : builtE d a = true) (hA : At W i (rowsK name src a.op a.n (tokE d a) ++ rest)) (hn : NoOp 1 rest) (hw : keySays (headK rest) (str [119, 104, 101, 114, 101]) = false) (h0 : 0 ≤ k) (hk : k + 2 * (dptE d a : Int) ≤ 61) :
  (rowsP W (stK i k)).1 = (name, src) ∧ whereP W (expr1 W) (rowsP W (stK i k)).2 = (a, stK (i + (rowsK name src a.op a.n (tokE d a)).length) k) := by
 unfold rowsK at hA
 rw [List.append_assoc] at hA
 have hA : At W i (idK name :: nmK [105, 110] :: idK src :: (whereK a.op a.n (tokE d a) ++ rest)) := hA
 rw [rows_at h1 h2 hA]
 refine ⟨rfl, ?_⟩
 simp only
 rw [where1_at hb hA.next.next.next hn hw h0 hk, rowsK_len]
 congr 2
 omega
theorem change_at {name src : ByteArray} {cols : List ByteArray} {a : Ex} {es : List Ex} (h1 : freeB name = true) (h2 : freeB src = true) (hne : cols ≠ []) (hl : cols.length = es.length) (hc : ∀ c ∈ cols, freeB c = true) (ha : builtE d a = true) (hb : ∀ e ∈ es, builtE d e = true)
  (hA : At W i (rowsK name src a.op a.n (tokE d a) ++ (nmK [115, 101, 116] :: (joinK ((cols.zip es).map (setK d)) ++ rest)))) (hn : NoOp 1 rest) (hcm : keySays (headK rest) (str [44]) = false) (h0 : 0 ≤ k) (hka : k + 2 * (dptE d a : Int) ≤ 61) (hk : ∀ e ∈ es, k + 2 * (dptE d e : Int) ≤ 61) :
  changeP W (stK i k) = (.mk 4 name src 0 cols (a :: es) [] [], stK (i + (rowsK name src a.op a.n (tokE d a)).length + 1 + (joinK ((cols.zip es).map (setK d))).length) k) := by
 obtain ⟨r1, r2⟩ := rows_where (k := k) h1 h2 ha hA (noop_of (by decide +kernel)) (by show keySays (nmK [115, 101, 116]) _ = false; decide +kernel) h0 hka
 have hz : cols.zip es ≠ [] := by
  intro h
  have := congrArg List.length h
  rw [List.length_zip, List.length_nil] at this
  exact hne (List.eq_nil_of_length_eq_zero (by omega))
 have hB := hA.skip
 unfold changeP
 simp only
 rw [r1, r2]
 simp only
 rw [must_at hB (show keySays (nmK [115, 101, 116]) (str [115, 101, 116]) = true by decide +kernel), list1_at (P := NoOp 1) (fun _ => noop_of (by decide +kernel)) hz (fun x hx _ _ hA hn => set_at (d := d) (hc _ (List.of_mem_zip hx).1) (hb _ (List.of_mem_zip hx).2) hA hn h0 (hk _ (List.of_mem_zip hx).2)) hB.next hn hcm]
 simp only
 rw [List.map_fst_zip (by omega), List.map_snd_zip (by omega)]
theorem limit_at {n : Int} (h1 : 0 ≤ n) (h2 : n ≤ 1000) (hA : At W i (limitK n ++ (sgK [123] :: rest))) : (if (mayP W (str [108, 105, 109, 105, 116]) (stK i k)).1 then limitP W (mayP W (str [108, 105, 109, 105, 116]) (stK i k)).2 else (0, stK i k)) = (n, stK (i + (limitK n).length) k) := by
 unfold limitK at *
 by_cases h : 0 < n
 ·rw [if_pos h] at hA ⊢
  have hA : At W i (nmK [108, 105, 109, 105, 116] :: (1, str (decS n), n) :: (sgK [123] :: rest)) := hA
  rw [may_yes' hA (show keySays (nmK [108, 105, 109, 105, 116]) (str [108, 105, 109, 105, 116]) = true by decide +kernel), if_pos rfl]
  unfold limitP
  have k2 : (W.look (stK (i + 1) k).at_).n = n := look_n hA.next
  simp only
  rw [k2, if_neg (by omega), num_at hA.next]
  simp only [List.length_cons, List.length_nil]
  rw [show min n 1001 = n by omega]
 ·rw [if_neg h] at hA ⊢
  rw [may_no' hA (show keySays (sgK [123]) (str [108, 105, 109, 105, 116]) = false by decide +kernel), if_neg Bool.false_ne_true]
  simp only [List.length_nil]
  rw [show n = 0 by omega]
  rfl
theorem limit_head {n : Int} : stopK 1 (headK (limitK n ++ (sgK [123] :: rest))) = true ∧ keySays (headK (limitK n ++ (sgK [123] :: rest))) (str [119, 104, 101, 114, 101]) = false := by
 unfold limitK
 split
 ·exact ⟨(by decide +kernel : stopK 1 (nmK [108, 105, 109, 105, 116]) = true), (by decide +kernel : keySays (nmK [108, 105, 109, 105, 116]) (str [119, 104, 101, 114, 101]) = false)⟩
 ·exact ⟨(by decide +kernel : stopK 1 (sgK [123]) = true), (by decide +kernel : keySays (sgK [123]) (str [119, 104, 101, 114, 101]) = false)⟩
theorem noop_head {ks : List Key} (h : stopK 1 (headK ks) = true) : NoOp 1 ks := by
 cases ks with
 | nil => exact noop_nil 1
 | cons x r => exact noop_of h
theorem kw_plain {B : PSt → List St × PSt} {a : List UInt8} (hA : At W i (nmK a :: rest)) (h1 : a ≠ [102, 111, 114]) (h2 : a ≠ [105, 102]) : stmtP W B (stK i k) = ((plainP W (stK i k)).1, mustP W [str [59]] (plainP W (stK i k)).2) := by
 unfold stmtP
 rw [may_no' hA (by rw [headK_cons, nmK_says]; simp [h1]), if_neg Bool.false_ne_true, may_no' hA (by rw [headK_cons, nmK_says]; simp [h2]), if_neg Bool.false_ne_true]
end
theorem head_stmt {d : Nat} {x : St} (h : builtS d x = true) : HeadC d x := by
 cases d with
 | zero => cases h
 | succ d =>
  rcases stmt_cases h with ⟨op, name, e, ho, _, _, rfl⟩ | ⟨op, src, es, ho, _, _, _, rfl⟩ | ⟨name, src, cols, a, es, _, _, _, _, _, _, _, rfl⟩ | ⟨name, src, a, _, _, _, rfl⟩ | ⟨name, src, n, a, body, _, _, _, _, _, _, rfl⟩ | ⟨a, body, els, _, _, _, rfl⟩ | ⟨a, _, rfl⟩ | ⟨es, _, _, rfl⟩
  ·rcases ho with rfl | rfl
   ·exact ⟨_, _, rfl, by decide, by decide⟩
   ·exact ⟨_, _, rfl, by decide, by decide⟩
  ·rcases ho with rfl | rfl
   ·exact ⟨_, _, rfl, by decide, by decide⟩
   ·exact ⟨_, _, rfl, by decide, by decide⟩
  all_goals exact ⟨_, _, rfl, by decide, by decide⟩
theorem semi_at {d : Nat} {x : St} {a : List UInt8} {T : List Key} (hT : tokS d x = (nmK a :: T) ++ [sgK [59]]) (h1 : a ≠ [102, 111, 114]) (h2 : a ≠ [105, 102]) (h : ∀ (W : Wds) (i : Nat) (k : Int) (rest : List Key), At W i (nmK a :: (T ++ (sgK [59] :: rest))) → 0 ≤ k → k + 2 * (dptS d x : Int) ≤ 61 → plainP W (stK i k) = (x, stK (i + 1 + T.length) k)) : StmtC d x := by
 intro W f i k rest hA hf he h0 hk
 rw [hT] at hA ⊢
 have hA : At W i (nmK a :: (T ++ (sgK [59] :: rest))) := by
  rw [List.append_assoc] at hA; exact hA
 rw [kw_plain hA h1 h2, h W i k rest hA h0 hk]
 simp only
 rw [must_at hA.next.skip (show keySays (sgK [59]) (str [59]) = true by decide +kernel)]
 simp only [List.length_append, List.length_cons, List.length_nil]
 congr 2
 omega
theorem stmt_back : ∀ (d : Nat) (x : St), builtS d x = true → StmtC d x := by
 intro d
 induction d with
 | zero => intro x h; cases h
 | succ d ih =>
  intro x h
  have stop : ∀ r, NoOp 1 (sgK [59] :: r) := fun r => noop_of (by decide +kernel)
  have comma : ∀ r, keySays (headK (sgK [59] :: r)) (str [44]) = false := fun r => (by decide +kernel : keySays (sgK [59]) (str [44]) = false)
  have whr : ∀ r, keySays (headK (sgK [59] :: r)) (str [119, 104, 101, 114, 101]) = false := fun r => (by decide +kernel : keySays (sgK [59]) (str [119, 104, 101, 114, 101]) = false)
  rcases stmt_cases h with ⟨op, name, e, ho, hf, hb, rfl⟩ | ⟨op, src, es, ho, hf, hne, hb, rfl⟩ | ⟨name, src, cols, a, es, h1, h2, hne, hl, hc, ha, hb, rfl⟩ | ⟨name, src, a, h1, h2, ha, rfl⟩ | ⟨name, src, n, a, body, h1, h2, h3, h4, ha, hb, rfl⟩ | ⟨a, body, els, ha, hb, hel, rfl⟩ | ⟨a, ha, rfl⟩ | ⟨es, hne, hb, rfl⟩
  ·have hd := fun k (hk : k + 2 * (dptS (d + 1) (.mk op name nil0 0 [] [e] [] []) : Int) ≤ 61) => (by have := dpt_expr (d := d) (op := op) (n := 0) (name := name) (src := nil0) (cols := []) (es := [e]) (body := []) (els := []) (e := e) (by simp); omega : k + 2 * (dptE d e : Int) ≤ 61)
   rcases ho with rfl | rfl
   ·refine semi_at (a := [108, 101, 116]) (T := idK name :: sgK [61] :: exprsK d [e]) rfl (by decide) (by decide) fun W i k rest hA h0 hk => ?_
    rw [exprsK_one] at hA ⊢
    rw [kw_let hA, assign_at hf hb hA.next (stop _) h0 (hd k hk)]
    simp only [List.length_cons]
    congr 2
    omega
   ·refine semi_at (a := [115, 101, 116]) (T := idK name :: sgK [61] :: exprsK d [e]) rfl (by decide) (by decide) fun W i k rest hA h0 hk => ?_
    rw [exprsK_one] at hA ⊢
    rw [kw_set hA, assign_at hf hb hA.next (stop _) h0 (hd k hk)]
    simp only [List.length_cons]
    congr 2
    omega
  ·have hd := fun k (hk : k + 2 * (dptS (d + 1) (.mk op nil0 src 0 [] es [] []) : Int) ≤ 61) e (he : e ∈ es) => (by have := dpt_expr (d := d) (op := op) (n := 0) (name := nil0) (src := src) (cols := []) (body := []) (els := []) he; omega : k + 1 + 2 * (dptE d e : Int) ≤ 61)
   have hp := dpt_pos (d := d) (op := op) (n := 0) (name := nil0) (src := src) (cols := []) (es := es) (body := []) (els := [])
   rcases ho with rfl | rfl
   ·refine semi_at (a := [105, 110, 115, 101, 114, 116]) (T := idK src :: sgK [40] :: (exprsK d es ++ [sgK [41]])) rfl (by decide) (by decide) fun W i k rest hA h0 hk => ?_
    have hA : At W i (nmK [105, 110, 115, 101, 114, 116] :: idK src :: sgK [40] :: (exprsK d es ++ (sgK [41] :: (sgK [59] :: rest)))) := by
     have e : (idK src :: sgK [40] :: (exprsK d es ++ [sgK [41]])) ++ (sgK [59] :: rest) = idK src :: sgK [40] :: (exprsK d es ++ (sgK [41] :: (sgK [59] :: rest))) := by simp
     rw [e] at hA
     exact hA
    rw [kw_insert hA, into_at hf hne hb hA.next h0 (by omega) (hd k hk)]
    simp only [List.length_cons, List.length_append, List.length_nil]
    congr 2
    omega
   ·refine semi_at (a := [101, 109, 105, 116]) (T := idK src :: sgK [40] :: (exprsK d es ++ [sgK [41]])) rfl (by decide) (by decide) fun W i k rest hA h0 hk => ?_
    have hA : At W i (nmK [101, 109, 105, 116] :: idK src :: sgK [40] :: (exprsK d es ++ (sgK [41] :: (sgK [59] :: rest)))) := by
     have e : (idK src :: sgK [40] :: (exprsK d es ++ [sgK [41]])) ++ (sgK [59] :: rest) = idK src :: sgK [40] :: (exprsK d es ++ (sgK [41] :: (sgK [59] :: rest))) := by simp
     rw [e] at hA
     exact hA
    rw [kw_emit hA, into_at hf hne hb hA.next h0 (by omega) (hd k hk)]
    simp only [List.length_cons, List.length_append, List.length_nil]
    congr 2
    omega
  ·have hd := fun k (hk : k + 2 * (dptS (d + 1) (.mk 4 name src 0 cols (a :: es) [] []) : Int) ≤ 61) e (he : e ∈ a :: es) => (by have := dpt_expr (d := d) (op := 4) (n := 0) (name := name) (src := src) (cols := cols) (body := []) (els := []) he; omega : k + 2 * (dptE d e : Int) ≤ 61)
   refine semi_at (a := [117, 112, 100, 97, 116, 101]) (T := rowsK name src a.op a.n (tokE d a) ++ (nmK [115, 101, 116] :: joinK ((cols.zip es).map (setK d)))) rfl (by decide) (by decide) fun W i k rest hA h0 hk => ?_
   have hA : At W i (nmK [117, 112, 100, 97, 116, 101] :: (rowsK name src a.op a.n (tokE d a) ++ (nmK [115, 101, 116] :: (joinK ((cols.zip es).map (setK d)) ++ (sgK [59] :: rest))))) := by
    rw [List.append_assoc] at hA; exact hA
   rw [kw_update hA, change_at h1 h2 hne hl hc ha hb hA.next (stop _) (comma _) h0 (hd k hk a (by simp)) (fun e he => hd k hk e (by simp [he]))]
   simp only [List.length_cons, List.length_append]
   congr 2
   omega
  ·refine semi_at (a := [100, 101, 108, 101, 116, 101]) (T := rowsK name src a.op a.n (tokE d a)) rfl (by decide) (by decide) fun W i k rest hA h0 hk => ?_
   have hd := dpt_expr (d := d) (op := 5) (n := 0) (name := name) (src := src) (cols := []) (es := [a]) (body := []) (els := []) (e := a) (by simp)
   obtain ⟨r1, r2⟩ := rows_where (k := k) h1 h2 ha hA.next (stop _) (whr _) h0 (by omega)
   rw [kw_delete hA, r1, r2]
  ·intro W f i k rest hA hf he h0 hk
   have hd := dpt_expr (d := d) (op := 6) (n := n) (name := name) (src := src) (cols := []) (es := [a]) (body := body) (els := []) (e := a) (by simp)
   have hp := dpt_pos (d := d) (op := 6) (n := n) (name := name) (src := src) (cols := []) (es := [a]) (body := body) (els := [])
   have hq := fun x (hx : x ∈ body) => dpt_body (d := d) (op := 6) (n := n) (name := name) (src := src) (cols := []) (es := [a]) (els := []) hx
   have e : tokS (d + 1) (.mk 6 name src n [] [a] body []) = nmK [102, 111, 114] :: (rowsK name src a.op a.n (tokE d a) ++ (limitK n ++ blockK (tokS d) body)) := rfl
   rw [e] at hA hf ⊢
   simp only [List.length_cons, List.length_append] at hf ⊢
   have hA : At W i (nmK [102, 111, 114] :: (rowsK name src a.op a.n (tokE d a) ++ (limitK n ++ (blockK (tokS d) body ++ rest)))) := by
    have e2 : (nmK [102, 111, 114] :: (rowsK name src a.op a.n (tokE d a) ++ (limitK n ++ blockK (tokS d) body))) ++ rest = nmK [102, 111, 114] :: (rowsK name src a.op a.n (tokE d a) ++ (limitK n ++ (blockK (tokS d) body ++ rest))) := by simp
    rw [e2] at hA
    exact hA
   obtain ⟨l1, l2⟩ := limit_head (n := n) (rest := body.flatMap (tokS d) ++ [sgK [125]] ++ rest)
   obtain ⟨r1, r2⟩ := rows_where (k := k) h1 h2 ha hA.next (noop_head l1) l2 h0 (by omega)
   rw [kw_for hA]
   unfold forP
   simp only
   rw [r1, r2]
   simp only
   rw [limit_at h3 h4 hA.next.skip]
   simp only
   rw [block_at (fun x hx => ⟨ih x (hb x hx), head_stmt (hb x hx), by have := hq x hx; omega⟩) h0 (by omega) hA.next.skip.skip (by omega)]
   simp only
   congr 2
   omega
  ·intro W f i k rest hA hf he h0 hk
   have hd := dpt_expr (d := d) (op := 7) (n := 0) (name := nil0) (src := nil0) (cols := []) (es := [a]) (body := body) (els := els) (e := a) (by simp)
   have hp := dpt_pos (d := d) (op := 7) (n := 0) (name := nil0) (src := nil0) (cols := []) (es := [a]) (body := body) (els := els)
   have hq := fun x (hx : x ∈ body) => dpt_body (d := d) (op := 7) (n := 0) (name := nil0) (src := nil0) (cols := []) (es := [a]) (els := els) hx
   have hq2 := fun x (hx : x ∈ els) => dpt_els (d := d) (op := 7) (n := 0) (name := nil0) (src := nil0) (cols := []) (es := [a]) (body := body) hx
   have e : tokS (d + 1) (.mk 7 nil0 nil0 0 [] [a] body els) = nmK [105, 102] :: (tokE d a ++ (blockK (tokS d) body ++ (if els = [] then [] else nmK [101, 108, 115, 101] :: blockK (tokS d) els))) := rfl
   rw [e] at hA hf ⊢
   simp only [List.length_cons, List.length_append] at hf ⊢
   have hA : At W i (nmK [105, 102] :: (tokE d a ++ (blockK (tokS d) body ++ ((if els = [] then [] else nmK [101, 108, 115, 101] :: blockK (tokS d) els) ++ rest)))) := by
    have e2 : ∀ z, (nmK [105, 102] :: (tokE d a ++ (blockK (tokS d) body ++ z))) ++ rest = nmK [105, 102] :: (tokE d a ++ (blockK (tokS d) body ++ (z ++ rest))) := fun z => by simp
    rw [e2] at hA
    exact hA
   have hB := hA.next.skip
   have hC := hB.skip
   rw [kw_if hA]
   unfold ifP
   simp only
   rw [expr1_at ha hA.next (noop_head (by show stopK 1 (sgK [123]) = true; decide +kernel)) h0 (by omega)]
   simp only
   rw [block_at (fun x hx => ⟨ih x (hb x hx), head_stmt (hb x hx), by have := hq x hx; omega⟩) h0 (by omega) hB (by omega)]
   simp only
   cases els with
   | nil =>
    rw [if_pos rfl] at hC ⊢
    rw [may_no' hC he, if_neg Bool.false_ne_true]
    simp only [List.length_nil]
    congr 2
    omega
   | cons y ys =>
    rw [if_neg (List.cons_ne_nil y ys)] at hC hf ⊢
    simp only [List.length_cons] at hf ⊢
    have hC : At W _ (nmK [101, 108, 115, 101] :: (blockK (tokS d) (y :: ys) ++ rest)) := hC
    rw [may_yes' hC (show keySays (nmK [101, 108, 115, 101]) (str [101, 108, 115, 101]) = true by decide +kernel), if_pos rfl]
    simp only
    rw [block_at (fun x hx => ⟨ih x (hel x hx), head_stmt (hel x hx), by have := hq2 x hx; omega⟩) h0 (by omega) hC.next (by omega)]
    simp only
    congr 2
    omega
  ·refine semi_at (a := [97, 98, 111, 114, 116]) (T := exprsK d [a]) rfl (by decide) (by decide) fun W i k rest hA h0 hk => ?_
   have hd := dpt_expr (d := d) (op := 9) (n := 0) (name := nil0) (src := nil0) (cols := []) (es := [a]) (body := []) (els := []) (e := a) (by simp)
   rw [exprsK_one] at hA ⊢
   rw [kw_abort hA, expr1_at ha hA.next (stop _) h0 (by omega)]
  ·refine semi_at (a := [114, 101, 112, 108, 121]) (T := exprsK d es) rfl (by decide) (by decide) fun W i k rest hA h0 hk => ?_
   have hd := fun e (he : e ∈ es) => dpt_expr (d := d) (op := 10) (n := 0) (name := nil0) (src := nil0) (cols := []) (body := []) (els := []) he
   rw [kw_reply hA, exprs_at hne hb hA.next (stop _) (comma _) h0 (fun e he => by have := hd e he; omega)]
end Go.Afx
namespace Go.Afx
open Go.RowKit
theorem param_at {W : Wds} {i : Nat} {k : Int} {rest : List Key} {c : Co} (hf : freeB c.name = true) (hk : 1 ≤ c.kind ∧ c.kind ≤ 3) (hA : At W i (paramK c ++ rest)) : paramP W (stK i k) = (c, stK (i + (paramK c).length) k) := by
 obtain ⟨name, kind⟩ := c
 simp only at hf hk
 have hA : At W i (idK name :: kindK kind :: rest) := hA
 have hB := hA.next
 have e : kindP W (stK (i + 1) k) = (kind, stK (i + 1 + 1) k) := by
  unfold kindK at hB
  unfold kindP
  obtain rfl | rfl | rfl : kind = 1 ∨ kind = 2 ∨ kind = 3 := by omega
  ·simp [mayP_at hB, headK_cons, nmK_says, kindT]
  ·simp [mayP_at hB, headK_cons, nmK_says, kindT]
  ·simp [mayP_at hB, headK_cons, nmK_says, kindT]
 unfold paramP
 simp only
 rw [name_at hA (free_res hf)]
 simp only
 rw [e]
 rfl
def onK (b : ByteArray) : List Key := if noS b then [] else [nmK [111, 110], idK b]
def fromK (b : ByteArray) : List Key := if noS b then [] else [nmK [102, 114, 111, 109], idK b]
def fuelK (n : Int) : List Key := if n = 100 then [] else [nmK [102, 117, 101, 108], (1, str (decS n), n)]
theorem fuel_at {W : Wds} {i : Nat} {k n : Int} {rest : List Key} (h : 1 ≤ n ∧ n ≤ 2000) (hA : At W i (fuelK n ++ (sgK [123] :: rest))) : fuelP W (stK i k) = (n, stK (i + (fuelK n).length) k) := by
 unfold fuelK at *
 unfold fuelP
 by_cases h1 : n = 100
 ·rw [if_pos h1] at hA ⊢
  rw [may_no' hA (show keySays (sgK [123]) (str [102, 117, 101, 108]) = false by decide +kernel), if_neg Bool.false_ne_true, h1]
  rfl
 ·rw [if_neg h1] at hA ⊢
  have hA : At W i (nmK [102, 117, 101, 108] :: (1, str (decS n), n) :: (sgK [123] :: rest)) := hA
  rw [may_yes' hA (show keySays (nmK [102, 117, 101, 108]) (str [102, 117, 101, 108]) = true by decide +kernel), if_pos rfl]
  simp only
  rw [num_at hA.next, show min n 2001 = n by omega]
  rfl
theorem fuel_head {n : Int} {rest : List Key} : keySays (headK (fuelK n ++ (sgK [123] :: rest))) (str [111, 110]) = false ∧ keySays (headK (fuelK n ++ (sgK [123] :: rest))) (str [102, 114, 111, 109]) = false := by
 unfold fuelK
 split
 ·exact (by decide +kernel : keySays (sgK [123]) (str [111, 110]) = false ∧ keySays (sgK [123]) (str [102, 114, 111, 109]) = false)
 ·exact (by decide +kernel : keySays (nmK [102, 117, 101, 108]) (str [111, 110]) = false ∧ keySays (nmK [102, 117, 101, 108]) (str [102, 114, 111, 109]) = false)
theorem part_at {W : Wds} {i : Nat} {k n : Int} {rest : List Key} {part src : ByteArray} (h : (part = nil0 ∧ src = nil0) ∨ (freeB part = true ∧ src = nil0) ∨ (part = nil0 ∧ freeB src = true)) (hA : At W i (onK part ++ (fromK src ++ (fuelK n ++ (sgK [123] :: rest))))) :
  (if (mayP W (str [111, 110]) (stK i k)).1 then nameP W (mayP W (str [111, 110]) (stK i k)).2 else (nil0, stK i k)).1 = part ∧
  (if (mayP W (str [111, 110]) (stK i k)).1 then (nil0, (if (mayP W (str [111, 110]) (stK i k)).1 then nameP W (mayP W (str [111, 110]) (stK i k)).2 else (nil0, stK i k)).2) else if (mayP W (str [102, 114, 111, 109]) (stK i k)).1 then nameP W (mayP W (str [102, 114, 111, 109]) (stK i k)).2 else (nil0, stK i k)) = (src, stK (i + (onK part).length + (fromK src).length) k) := by
 obtain ⟨f1, f2⟩ := fuel_head (n := n) (rest := rest)
 have hn : noS nil0 = true := by decide +kernel
 have hfree : ∀ b : ByteArray, freeB b = true → noS b = false := fun b hb => by
  cases h : noS b with
  | false => rfl
  | true => rw [noS_eq h] at hb; revert hb; decide +kernel
 unfold onK fromK at *
 rcases h with ⟨rfl, rfl⟩ | ⟨hp, rfl⟩ | ⟨rfl, hs⟩
 ·rw [if_pos hn] at hA ⊢
  rw [may_no' hA f1, may_no' hA f2]
  exact ⟨rfl, rfl⟩
 ·rw [hfree _ hp, if_pos hn, if_neg Bool.false_ne_true] at hA ⊢
  have hA : At W i (nmK [111, 110] :: idK part :: (fuelK n ++ (sgK [123] :: rest))) := hA
  rw [may_yes' hA (show keySays (nmK [111, 110]) (str [111, 110]) = true by decide +kernel), if_pos rfl, name_at hA.next (free_res hp)]
  exact ⟨rfl, rfl⟩
 ·rw [hfree _ hs, if_pos hn, if_neg Bool.false_ne_true] at hA ⊢
  have hA : At W i (nmK [102, 114, 111, 109] :: idK src :: (fuelK n ++ (sgK [123] :: rest))) := hA
  rw [may_no' hA (show keySays (nmK [102, 114, 111, 109]) (str [111, 110]) = false by decide +kernel), if_neg Bool.false_ne_true, may_yes' hA (show keySays (nmK [102, 114, 111, 109]) (str [102, 114, 111, 109]) = true by decide +kernel), if_pos rfl, name_at hA.next (free_res hs)]
  exact ⟨rfl, rfl⟩
theorem heads_parts {p : Pr} (h : headsB p = true) : freeB p.name = true ∧ (∀ c ∈ p.params, freeB c.name = true ∧ 1 ≤ c.kind ∧ c.kind ≤ 3) ∧ (1 ≤ p.fuel ∧ p.fuel ≤ 2000) ∧ ((p.part = nil0 ∧ p.src = nil0) ∨ (freeB p.part = true ∧ p.src = nil0) ∨ (p.part = nil0 ∧ freeB p.src = true)) := by
 unfold headsB headsR at h
 simp only [Bool.and_eq_true, decide_eq_true_eq, List.all_eq_true] at h
 obtain ⟨⟨⟨⟨⟨⟨h1, h2⟩, _⟩, h4⟩, _⟩, h6⟩, h7⟩ := h
 have hc : ∀ c ∈ p.params, freeB c.name = true := fun c hc => frees_mem h4 _ (List.mem_map.2 ⟨c, hc, rfl⟩)
 refine ⟨h2, fun c hm => ⟨hc c hm, ?_⟩, h6, ?_⟩
 ·have := h1 c hm
  unfold kindB at this
  simp only [Bool.and_eq_true, decide_eq_true_eq] at this
  exact this
 ·cases hs : noS p.src with
  | true =>
   rw [hs, if_pos rfl] at h7
   simp only [Bool.or_eq_true, List.any_eq_true, List.mem_map, decide_eq_true_eq] at h7
   rcases h7 with h7 | ⟨_, ⟨c, hm, rfl⟩, h8⟩
   ·exact .inl ⟨noS_eq h7, noS_eq hs⟩
   ·exact .inr (.inl ⟨by rw [← h8]; exact hc c hm, noS_eq hs⟩)
  | false =>
   rw [hs, if_neg Bool.false_ne_true] at h7
   simp only [Bool.and_eq_true] at h7
   exact .inr (.inr ⟨noS_eq h7.2, h7.1.1⟩)
theorem proc_back {d : Nat} {p : Pr} (hh : headsB p = true) (hb : ∀ x ∈ p.body, builtS d x = true) (hk : ∀ x ∈ p.body, dptS d x ≤ 30) {W : Wds} (hA : At W 0 (tokP d p ++ [])) : procP W PSt.start = (p, stK (tokP d p).length 0) := by
 obtain ⟨h1, h2, h3, h4⟩ := heads_parts hh
 obtain ⟨name, src, part, fuel, params, body⟩ := p
 simp only at h1 h2 h3 h4 hb hk
 have e : tokP d ⟨name, src, part, fuel, params, body⟩ = nmK [112, 114, 111, 99] :: idK name :: sgK [40] :: (joinK (params.map paramK) ++ (sgK [41] :: (onK part ++ (fromK src ++ (fuelK fuel ++ blockK (tokS d) body))))) := rfl
 rw [e] at hA ⊢
 have hA : At W 0 (nmK [112, 114, 111, 99] :: idK name :: sgK [40] :: (joinK (params.map paramK) ++ (sgK [41] :: (onK part ++ (fromK src ++ (fuelK fuel ++ (blockK (tokS d) body ++ []))))))) := by
  rw [List.append_nil] at hA ⊢
  exact hA
 have hB := hA.next.next.next
 have hC := hB.skip.next
 have hD := hC.skip.skip
 have hE := hD.skip
 have hl := fuel_lt hE
 have s0 : PSt.start = stK 0 0 := rfl
 have hlist : (if isP W (stK (0 + 1 + 1 + 1) (0 + 1)) (str [41]) then ([], stK (0 + 1 + 1 + 1) (0 + 1)) else list1 W (paramP W) (stK (0 + 1 + 1 + 1) (0 + 1))) = (params, stK (0 + 1 + 1 + 1 + (joinK (params.map paramK)).length) (0 + 1)) := by
  cases params with
  | nil =>
   rw [isP_at hB, show keySays (headK (joinK (List.map paramK []) ++ sgK [41] :: (onK part ++ (fromK src ++ (fuelK fuel ++ (blockK (tokS d) body ++ [])))))) (str [41]) = true from (by decide +kernel : keySays (sgK [41]) (str [41]) = true), if_pos rfl]
   rfl
  | cons c cs =>
   have hno : isP W (stK (0 + 1 + 1 + 1) (0 + 1)) (str [41]) = false := by
    rw [isP_at hB]
    exact free_says (h2 c (by simp)).1 (by decide +kernel)
   rw [hno, if_neg Bool.false_ne_true]
   exact list1_at (P := fun _ => True) (fun _ => trivial) (List.cons_ne_nil c cs) (fun x hx _ _ hA _ => param_at (h2 x hx).1 (h2 x hx).2 hA) hB trivial (by show keySays (sgK [41]) _ = false; decide +kernel)
 obtain ⟨q1, q2⟩ := part_at (k := 0) h4 hC
 unfold procP
 rw [s0]
 simp only
 rw [must_at hA (show keySays (nmK [112, 114, 111, 99]) (str [112, 114, 111, 99]) = true by decide +kernel), name_at hA.next (free_res h1)]
 simp only
 rw [must_at hA.next.next (show keySays (sgK [40]) (str [40]) = true by decide +kernel), enter_at (by omega) (by omega), hlist]
 simp only
 rw [must_at hB.skip (show keySays (sgK [41]) (str [41]) = true by decide +kernel), leave_at (by omega) (by omega), q1, q2]
 simp only
 rw [fuel_at h3 hD]
 simp only
 unfold block1
 rw [block_at (fun x hx => ⟨stmt_back d x (hb x hx), head_stmt (hb x hx), by have := hk x hx; omega⟩) (by omega) (by omega) hE (by omega)]
 simp only [List.length_cons, List.length_append]
 congr 2
 omega
end Go.Afx
namespace Go.Proofs.YtjpiedpmnnepgaaGreatDoor
open Go.RowKit Go.Afx
def endB (c : UInt8) : Bool := decide (c = 32) || decide (c = 10) || decide (c = 40) || decide (c = 41) || decide (c = 44) || decide (c = 46) || decide (c = 58) || decide (c = 59) || decide (c = 123) || decide (c = 125)
def Bd (R : List UInt8) : Prop := ∀ c, R.head? = some c → endB c = true
theorem bd_cons {c : UInt8} (h : endB c = true) (R : List UInt8) : Bd (c :: R) := fun d hd => by cases hd; exact h
theorem endB_says {c : UInt8} (h : endB c = true) : lexB c = false ∧ c.toNat ≠ 39 ∧ c ≠ 61 ∧ c ≠ 47 := by
 unfold endB at h
 simp only [Bool.or_eq_true, decide_eq_true_eq] at h
 rcases h with ((((((((rfl | rfl) | rfl) | rfl) | rfl) | rfl) | rfl) | rfl) | rfl) | rfl
 all_goals exact ⟨by decide, by decide, by decide, by decide⟩
theorem lx_blank {c : UInt8} (hc : wsB c = true) {R : List UInt8} {ks : List Key} (h : LexB R ks) : LexB (c :: R) ks := by
 unfold LexB at *
 have e : blk false (c :: R) = blk false R + 1 := by
  rw [blk, if_pos hc, Nat.add_comm]
 rw [e, List.drop_succ_cons]
 exact h
theorem lx_blanks {n : Nat} {R : List UInt8} {ks : List Key} (h : LexB R ks) : LexB (List.replicate n 32 ++ R) ks := by
 induction n with
 | zero => exact h
 | succ n ih =>
  rw [List.replicate_succ, List.cons_append]
  exact lx_blank (by decide) ih
theorem lx_word {t R : List UInt8} {ks : List Key} {x : Nx} (hx : nextX (t ++ R) = some x) (hl : x.len = t.length) (hb : ∃ c r, t ++ R = c :: r ∧ wsB c = false ∧ ¬ (c.toNat = 47 ∧ r.head? = some 47)) (h : LexB R ks) : LexB (t ++ R) (keyX x :: ks) := by
 obtain ⟨c, r, he, h1, h2⟩ := hb
 have e : blk false (t ++ R) = 0 := by
  rw [he, blk, if_neg (by rw [h1]; decide), if_neg h2]
 unfold LexB
 rw [e, List.drop_zero]
 refine .cons (by rw [he]; exact List.cons_ne_nil _ _) hx ?_
 rw [hl, List.drop_left]
 exact h
theorem take_bd {t R : List UInt8} (ht : ∀ c ∈ t, lexB c = true) (hR : Bd R) : (t ++ R).takeWhile lexB = t := by
 induction t with
 | nil =>
  cases R with
  | nil => rfl
  | cons c r => rw [List.nil_append, List.takeWhile_cons, (endB_says (hR c rfl)).1]; rfl
 | cons a t ih =>
  rw [List.cons_append, List.takeWhile_cons, ht a (by simp), if_pos rfl, ih (fun c hc => ht c (by simp [hc]))]
theorem part_lex {c : UInt8} (h : partB c = true) : lexB c = true := by
 unfold partB letterB at h
 unfold lexB
 simp only [Bool.or_eq_true, Bool.and_eq_true, decide_eq_true_eq] at *
 rcases h with (h | h) | h
 ·exact .inl (.inl (.inl h))
 ·exact .inl (.inr h)
 ·exact .inr h
theorem lex_nows {c : UInt8} (h : lexB c = true) : wsB c = false ∧ c.toNat ≠ 47 := by
 unfold lexB at h
 unfold wsB
 simp only [Bool.or_eq_true, Bool.and_eq_true, decide_eq_true_eq] at h
 simp
 omega
theorem str_list (b : ByteArray) : str b.data.toList = b := rfl
theorem lx_name {b : ByteArray} (hn : namedB b = true) {R : List UInt8} {ks : List Key} (hR : Bd R) (h : LexB R ks) : LexB (b.data.toList ++ R) (idK b :: ks) := by
 have hn2 := hn
 unfold namedB at hn2
 cases hd : b.data.toList with
 | nil => rw [hd] at hn2; cases hn2
 | cons c r =>
  rw [hd] at hn2
  simp only [Bool.and_eq_true, decide_eq_true_eq, List.all_eq_true] at hn2
  obtain ⟨⟨_, h2⟩, h3⟩ := hn2
  have hall : ∀ a ∈ c :: r, lexB a = true := fun a ha => by
   rcases List.mem_cons.1 ha with rfl | ha
   ·exact part_lex (by unfold partB; rw [h2]; rfl)
   ·exact part_lex (h3 a ha)
  have hc := hall c (by simp)
  have hdg : dgB c = false := by
   unfold letterB at h2
   unfold dgB
   simp only [Bool.and_eq_true, decide_eq_true_eq] at h2
   simp
   omega
  have e : nextX ((c :: r) ++ R) = some ⟨3, c :: r, 0, (c :: r).length⟩ := by
   rw [List.cons_append, nextX_cons, hc, if_pos rfl]
   unfold plainX
   rw [← List.cons_append, take_bd hall hR]
   rw [if_neg (by simp [hdg])]
   rw [show namedB (str (c :: r)) = true by rw [← hd, str_list]; exact hn, if_pos rfl]
  have := lx_word e rfl ⟨c, r ++ R, rfl, (lex_nows hc).1, fun h => (lex_nows hc).2 h.1⟩ h
  have ek : keyX (⟨3, c :: r, 0, (c :: r).length⟩ : Nx) = idK b := by
   show (3, str (c :: r), 0) = (3, b, 0)
   rw [← hd, str_list]
  rw [ek] at this
  exact this
theorem lx_kw {t : List UInt8} (hn : namedB (str t) = true) {R : List UInt8} {ks : List Key} (hR : Bd R) (h : LexB R ks) : LexB (t ++ R) (nmK t :: ks) := lx_name hn hR h
theorem lx_sign {g : List UInt8} (hg : g ∈ signsL) {R : List UInt8} {ks : List Key} (hR : ∀ c, R.head? = some c → c ≠ 61 ∧ c ≠ 47) (h : LexB R ks) : LexB (g ++ R) (sgK g :: ks) := by
 have e : nextX (g ++ R) = some ⟨0, g, 0, g.length⟩ ∧ ∃ c r, g ++ R = c :: r ∧ wsB c = false ∧ ¬ (c.toNat = 47 ∧ r.head? = some 47) := by
  cases R with
  | nil =>
   simp only [signsL, List.mem_cons, List.not_mem_nil, or_false] at hg
   rcases hg with rfl | rfl | rfl | rfl | rfl | rfl | rfl | rfl | rfl | rfl | rfl | rfl | rfl | rfl | rfl | rfl | rfl | rfl | rfl | rfl | rfl
   all_goals exact ⟨rfl, _, _, rfl, by decide, by decide⟩
  | cons a r =>
   obtain ⟨h1, h2⟩ := hR a rfl
   have h1' : ¬ (61 : UInt8) = a := fun h => h1 h.symm
   have h2' : ¬ a = 47 := h2
   simp only [signsL, List.mem_cons, List.not_mem_nil, or_false] at hg
   rcases hg with rfl | rfl | rfl | rfl | rfl | rfl | rfl | rfl | rfl | rfl | rfl | rfl | rfl | rfl | rfl | rfl | rfl | rfl | rfl | rfl | rfl
   all_goals exact ⟨by simp [nextX, lexB, signX, signsL, List.isPrefixOf, h1'], _, _, rfl, by decide, by simp [h2']⟩
 exact lx_word e.1 rfl e.2 h
theorem bd_sign {R : List UInt8} (h : Bd R) : ∀ c, R.head? = some c → c ≠ 61 ∧ c ≠ 47 := fun c hc => by
 obtain ⟨_, _, h1, h2⟩ := endB_says (h c hc)
 exact ⟨h1, h2⟩
/- numbers -/
theorem dig_of {k : Nat} (h : k < 10) : (UInt8.ofNat (48 + k)).toNat = 48 + k := by
 rw [UInt8.toNat_ofNat']
 omega
theorem digs_says : ∀ (k n : Nat), n < 10 ^ k → numL (digs n) = n ∧ (∀ c ∈ digs n, dgB c = true) ∧ (0 < n → ∃ c r, digs n = c :: r ∧ c ≠ 48) := by
  intro k
  induction k with
  | zero => intro n h; obtain rfl : n = 0 := by simpa using h
            rw [digs_zero]
            exact ⟨rfl, fun c hc => (by cases hc), fun h => (by omega)⟩
  | succ k ih =>
    intro n h
    rcases Nat.eq_zero_or_pos n with rfl | hp
    · rw [digs_zero]
      exact ⟨rfl, fun c hc => (by cases hc), fun h => (by omega)⟩
    · obtain ⟨h1, h2, h3⟩ := ih (n / 10) (by rw [Nat.pow_succ] at h; omega)
      have hd := dig_of (Nat.mod_lt n (by omega : 0 < 10))
      rw [digs_pos hp]
      refine ⟨?_, fun c hc => ?_, fun _ => ?_⟩
      · rw [numL_snoc, h1, hd]; omega
      · rcases List.mem_append.1 hc with hc | hc
        · exact h2 c hc
        · obtain rfl := List.mem_singleton.1 hc
          unfold dgB
          rw [hd]
          simp
          omega
      · rcases Nat.eq_zero_or_pos (n / 10) with h0 | h0
        · rw [h0, digs_zero]
          refine ⟨_, _, rfl, fun e => ?_⟩
          have := congrArg UInt8.toNat e
          rw [hd] at this
          have e48 : (48 : UInt8).toNat = 48 := rfl
          rw [e48] at this
          omega
        · obtain ⟨c, r, hr, hc⟩ := h3 h0
          exact ⟨c, _, by rw [hr]; rfl, hc⟩
theorem dg_lex {c : UInt8} (h : dgB c = true) : lexB c = true := by
 unfold dgB at h
 unfold lexB
 simp only [Bool.or_eq_true, Bool.and_eq_true, decide_eq_true_eq] at *
 exact .inl (.inr h)
theorem dec_says {n : Int} (h0 : 0 ≤ n) (h1 : n ≤ 9223372036854775807) : (∀ c ∈ decS n, dgB c = true) ∧ (∃ c r, decS n = c :: r) ∧ parseN (decS n) = some n.toNat := by
  unfold decS
  by_cases h : n = 0
  · subst h
    rw [if_pos rfl]
    exact ⟨fun c hc => by obtain rfl := List.mem_singleton.1 hc; decide, ⟨_, _, rfl⟩, by decide +kernel⟩
  · rw [if_neg h]
    obtain ⟨g1, g2, g3⟩ := digs_says 19 n.toNat (by have : (10 : Nat) ^ 19 = 10000000000000000000 := by decide
                                                    omega)
    obtain ⟨c, r, hr, hc⟩ := g3 (by omega)
    refine ⟨g2, ⟨c, r, hr⟩, ?_⟩
    unfold parseN
    rw [g1, if_neg ?_, if_pos (by omega)]
    rintro (⟨h2, _⟩ | h2)
    · rw [hr] at h2
      exact hc (Option.some.inj h2)
    · rw [List.all_eq_true.2 g2] at h2; cases h2
theorem lx_num {n : Int} (h0 : 0 ≤ n) (h1 : n ≤ 9223372036854775807) {R : List UInt8} {ks : List Key} (hR : Bd R) (h : LexB R ks) : LexB (decS n ++ R) ((1, str (decS n), n) :: ks) := by
 obtain ⟨g1, ⟨c, r, hr⟩, g3⟩ := dec_says h0 h1
 have hc := g1 c (by rw [hr]; simp)
 have e : nextX (decS n ++ R) = some ⟨1, decS n, n, (decS n).length⟩ := by
  have ht := take_bd (fun c hc => dg_lex (g1 c hc)) hR
  generalize hT : decS n = T at *
  subst hr
  rw [List.cons_append, nextX_cons, dg_lex hc, if_pos rfl]
  unfold plainX
  rw [← List.cons_append, ht, if_pos (by simp [hc]), g3]
  show some (⟨1, c :: r, ((n.toNat : Nat) : Int), (c :: r).length⟩ : Nx) = _
  rw [Int.toNat_of_nonneg h0]
 exact lx_word e rfl ⟨c, r ++ R, by rw [hr]; rfl, (lex_nows (dg_lex hc)).1, fun h => (lex_nows (dg_lex hc)).2 h.1⟩ h
/- texts -/
theorem quo_dbl {R : List UInt8} (hR : R.head? ≠ some 39) : ∀ (s acc : List UInt8) (i : Nat), (∀ c ∈ s, c ≠ 10) → quo (dbl s ++ (39 :: R)) acc i = some (acc ++ s, i + (dbl s).length + 1) := by
 intro s
 induction s with
 | nil =>
  intro acc i _
  show quo (39 :: R) acc i = _
  rw [((quo_at (c := 39) (r := R) (acc := acc) (i := i)).2.2 rfl).2 hR]
  simp [dbl]
 | cons c s ih =>
  intro acc i h
  have hs := fun d hd => h d (List.mem_cons_of_mem c hd)
  by_cases hc : c = 39
  ·subst hc
   have e : dbl (39 :: s) = 39 :: 39 :: dbl s := rfl
   rw [e]
   show quo (39 :: (39 :: (dbl s ++ (39 :: R)))) acc i = _
   rw [((quo_at (c := 39) (r := 39 :: (dbl s ++ (39 :: R))) (acc := acc) (i := i)).2.2 rfl).1 rfl]
   show quo (dbl s ++ (39 :: R)) (acc ++ [39]) (i + 2) = _
   rw [ih _ _ hs]
   simp only [List.append_assoc, List.cons_append, List.nil_append, List.length_cons]
   congr 2
   omega
  ·have e : dbl (c :: s) = c :: dbl s := by unfold dbl; rw [List.flatMap_cons, if_neg hc]; rfl
   rw [e]
   have h10 : c.toNat ≠ 10 := fun e => h c (by simp) (UInt8.toNat_inj.1 e)
   have h39 : c.toNat ≠ 39 := fun e => hc (UInt8.toNat_inj.1 e)
   rw [List.cons_append, quo_at.2.1 h10 h39, ih _ _ hs]
   simp only [List.append_assoc, List.cons_append, List.nil_append, List.length_cons]
   congr 2
   omega
theorem lx_quote {s : ByteArray} (hs : s.size ≤ 200) (hn : s.data.toList.any (· == 10) = false) {R : List UInt8} {ks : List Key} (hR : Bd R) (h : LexB R ks) : LexB (quoteS s ++ R) ((2, s, 0) :: ks) := by
 have hh : R.head? ≠ some 39 := fun e => (endB_says (hR 39 e)).2.1 rfl
 have hn2 : ∀ c ∈ s.data.toList, c ≠ 10 := fun c hc e => by
  have := List.any_eq_false.1 hn c hc
  simp [e] at this
 have e0 : quoteS s ++ R = 39 :: (dbl s.data.toList ++ (39 :: R)) := by unfold quoteS; simp
 have hq := quo_dbl hh s.data.toList [] 1 hn2
 have hsz : s.data.toList.length = s.size := szl s
 have e : nextX (quoteS s ++ R) = some ⟨2, s.data.toList, 0, 1 + (dbl s.data.toList).length + 1⟩ := by
  rw [e0, nextX_cons, if_neg (by decide), if_pos (by decide)]
  unfold quotedX
  rw [List.drop_succ_cons, List.drop_zero, hq]
  simp only [List.nil_append]
  rw [if_pos (by omega)]
 exact lx_word e (by unfold quoteS; simp only [List.length_append, List.length_cons, List.length_nil]) ⟨39, _, e0, by decide, fun h => absurd h.1 (by decide)⟩ h
end Go.Proofs.YtjpiedpmnnepgaaGreatDoor
