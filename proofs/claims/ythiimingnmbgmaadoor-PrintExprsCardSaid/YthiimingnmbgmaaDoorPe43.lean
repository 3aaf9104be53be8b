/- Parts of this proof, one behind the other: PrtY. -/
import Derived.Test.YthiimingnmbgmaaDoorPe40
import Derived.Test.YthiimingnmbgmaaDoorPe41
import Derived.Test.YthiimingnmbgmaaDoorPe42
import Derived.Test.YthiimingnmbgmaaDoorPe35
namespace Go.Proofs.YthiimingnmbgmaaDoor
open Go.RowKit Go.Afx

theorem opnd_ge (least op : Int) (t : List UInt8) : t.length ≤ (opnd least op t).length := by
  unfold opnd
  split
  · simp only [List.length_append, List.length_cons, List.length_nil]; omega
  · exact Nat.le_refl _
theorem rowsT_ge {d : Nat} {a : Ex} {name src : ByteArray} : (txtE d a).length ≤ (rowsT name src a.op a.n (txtE d a)).length + 5 := by
  unfold rowsT whereT
  split
  · rename_i h
    obtain ⟨h1, h2⟩ := h
    cases d with
    | zero => exact Nat.zero_le _
    | succ d =>
      obtain ⟨op, n, s, nm, sr, args⟩ := a
      have h1 : op = 3 := h1
      have h2 : n = 1 := h2
      subst h1 h2
      have : (txtE (d + 1) (.mk 3 1 s nm sr args)).length = 4 := rfl
      omega
  · simp only [List.length_append, List.length_cons, List.length_nil]; omega
theorem in_texts {F : Nat → Prop} {d : Nat} {w : World} (hE : RefC F d) {a : Ex} {A : Option Addr} {m c : Nat} (least : Int) (hx : ExAt F d w (rowOf a A m c) a) (hb : builtE d a = true) (hl : (opnd least a.op (txtE d a)).length ≤ 1000000000) :
    RTx w 23 #[.agg (rowOf a A m c).toArray, .int .i64 least] ⟨(opnd least a.op (txtE d a)).toArray⟩ :=
  fun W hW => in_any F d hE a _ least W (hx.below hW) hb (Nat.le_trans (opnd_ge _ _ _) hl)
theorem rows_texts {F : Nat → Prop} {d : Nat} {w : World} (hE : RefC F d) {a : Ex} {A : Option Addr} {m c : Nat} (name src : ByteArray) (hx : ExAt F d w (rowOf a A m c) a) (hb : builtE d a = true) (hl : (txtE d a).length ≤ 1000000000) (hn : name.size ≤ 1000000) (hs : src.size ≤ 1000000) :
    RTx w 22 #[.string name, .string src, .agg (rowOf a A m c).toArray] ⟨(rowsT name src a.op a.n (txtE d a)).toArray⟩ :=
  fun W hW => rrows_any F d hE a _ name src W (hx.below hW) hb hl hn hs
theorem expr_texts {F : Nat → Prop} {d : Nat} {w : World} (hE : RefC F d) {a : Ex} {A : Option Addr} {m c : Nat} (hx : ExAt F d w (rowOf a A m c) a) (hb : builtE d a = true) (hl : (txtE d a).length ≤ 1000000000) :
    RTx w 10 #[.agg (rowOf a A m c).toArray] ⟨(txtE d a).toArray⟩ :=
  fun W hW => hE a _ W (hx.below hW) hb hl
theorem refx_leafs {F : Nat → Prop} {d : Nat} {op n : Int} {s name src : ByteArray} {args : List Ex} {row : List Value} {w : World} (hx : ExAt F (d + 1) w row (.mk op n s name src args)) (hb : builtE (d + 1) (.mk op n s name src args) = true) (h5 : op = 1 ∨ op = 2 ∨ op = 3 ∨ op = 4 ∨ op = 5) :
    Calls Tryd.prog 10 #[.agg row.toArray] w fun e' w' => e' = .returned (.string ⟨(txtE (d + 1) (.mk op n s name src args)).toArray⟩) ∧ Below w.heap.size w w' := by
  obtain ⟨ha, hf, _⟩ := fields_op hb
  obtain rfl := no_args ha h5
  obtain ⟨A, c, rfl, _, _, _⟩ := args_at hx
  obtain ⟨_, hn, _⟩ := hx.open_
  have hn : okI n := hn
  unfold okI at hn
  rw [txt_op]
  rcases h5 with rfl | rfl | rfl | rfl | rfl
  · have e : fieldsR 1 n s name src = (decide (0 ≤ n) && noS s && noS name && noS src) := rfl
    rw [e] at hf
    simp only [Bool.and_eq_true, decide_eq_true_eq] at hf
    have h0 := hf.1.1.1
    obtain ⟨N, rfl⟩ : ∃ N : Nat, n = (N : Int) := ⟨n.toNat, by omega⟩
    have h := refx_int N (by have : (10 : Nat) ^ 19 = 10000000000000000000 := by decide
                             omega) s name src A ([] : List Ex).length c w
    simpa using h
  · have e : fieldsR 2 n s name src = (decide (s.size ≤ 200) && decide (n = 0) && noS name && noS src) := rfl
    rw [e] at hf
    simp only [Bool.and_eq_true, decide_eq_true_eq] at hf
    have h2 := hf.1.1.1
    have h := refx_text n s name src A ([] : List Ex).length c w (by omega)
    simpa using h
  · have e : fieldsR 3 n s name src = ((decide (n = 0) || decide (n = 1)) && noS s && noS name && noS src) := rfl
    rw [e] at hf
    simp only [Bool.and_eq_true, Bool.or_eq_true, decide_eq_true_eq] at hf
    rcases hf.1.1.1 with rfl | rfl
    · have h := refx_false s name src A ([] : List Ex).length c w
      simpa using h
    · have h := refx_true s name src A ([] : List Ex).length c w
      simpa using h
  · have h := refx_var n s name src A ([] : List Ex).length c w
    simpa using h
  · have e : fieldsR 5 n s name src = (freeB name && freeB s && decide (n = 0) && noS src) := rfl
    rw [e] at hf
    simp only [Bool.and_eq_true] at hf
    have h1 := named_len hf.1.1.1
    have h2 := named_len hf.1.1.2
    have e1 : name.data.toList.length = name.size := rfl
    have e2 : s.data.toList.length = s.size := rfl
    have h := refx_col n s name src A ([] : List Ex).length c w (by omega) (by omega)
    simpa using h
theorem refExpr_any : ∀ (d : Nat) (F : Nat → Prop), RefC F d := by
  intro d
  induction d with
  | zero => intro F e row w hx; exact hx.elim
  | succ d ih =>
    intro F e row w hx hb hlen
    obtain ⟨o1, o2⟩ := built_op hb
    obtain ⟨op, n, s, name, src, args⟩ := e
    have o1 : 1 ≤ op := o1
    have o2 : op ≤ 24 := o2
    by_cases h5 : op ≤ 5
    · exact refx_leafs hx hb (by omega)
    · obtain ⟨ha, hf, hall⟩ := fields_op hb
      obtain ⟨A, c, rfl, _, _, hat⟩ := args_at hx
      have hE := ih F
      have hne : ¬ op = 2 := by omega
      rw [txt_op, if_neg (by omega), if_neg hne, if_neg (by omega), if_neg (by omega), if_neg (by omega)] at hlen ⊢
      have hnm : 21 ≤ op → name.size ≤ 1000000 ∧ src.size ≤ 1000000 := fun h21 => by
        have hr : fieldsR op n s name src = (freeB name && freeB src && decide (n = 0) && noS s) := by
          unfold fieldsR
          rw [if_neg (by omega), if_neg (by omega), if_neg (by omega), if_neg (by omega), if_neg (by omega), if_pos]
          simp [rowsB]; omega
        rw [hr] at hf
        simp only [Bool.and_eq_true] at hf
        have n1 := named_len hf.1.1.1
        have n2 := named_len hf.1.1.2
        have e1 : name.data.toList.length = name.size := rfl
        have e2 : src.data.toList.length = src.size := rfl
        omega
      rcases len_args ha (by omega) o2 with ⟨hl, hop⟩ | ⟨hl, hop⟩
      · obtain ⟨a, rfl⟩ := List.length_eq_one_iff.1 hl
        obtain ⟨b, o, rfl, hFb, hbl, hget⟩ := hat (by simp)
        obtain ⟨A1, m1, c1, hS1, hx1⟩ := hget 0 a rfl
        have hb1 := hall a (by simp)
        have hS1 : Six w b o a A1 m1 c1 := by simpa using hS1
        by_cases h20 : op = 19 ∨ op = 20
        · simp only [if_pos h20] at hlen ⊢
          have hl1 : (opnd (lvlZ op) a.op (txtE d a)).length ≤ 1000000000 := by rw [List.length_append] at hlen; omega
          have h := refx_one op n (lvlZ op) s name src b o c a A1 m1 c1 _ w (by rcases h20 with rfl | rfl <;> decide) hbl hS1 (in_texts hE (lvlZ op) hx1 hb1 hl1) (by rw [arr_size]; exact hl1)
          simpa using h
        · simp only [if_neg h20] at hlen ⊢
          have h21 : op = 21 := by omega
          subst h21
          have hl1 : (rowsT name src a.op a.n (txtE d a)).length ≤ 999999994 := by
            have : (sgnL 21).length = 5 := rfl
            simp at hlen
            omega
          have hl2 := rowsT_ge (d := d) (a := a) (name := name) (src := src)
          have h := refx_21 n s name src b o c a A1 m1 c1 _ w hbl hS1 (rows_texts hE name src hx1 hb1 (by omega) (hnm (by omega)).1 (hnm (by omega)).2) (by rw [arr_size]; omega)
          simpa using h
      · obtain ⟨a, a2, rfl⟩ : ∃ a a2, args = [a, a2] := by
          rcases args with _ | ⟨a, _ | ⟨a2, _ | ⟨a3, r⟩⟩⟩ <;> simp at hl
          exact ⟨a, a2, rfl⟩
        obtain ⟨b, o, rfl, hFb, hbl, hget⟩ := hat (by simp)
        obtain ⟨A1, m1, c1, hS1, hx1⟩ := hget 0 a rfl
        obtain ⟨A2, m2, c2, hS2, hx2⟩ := hget 1 a2 rfl
        have hb1 := hall a (by simp)
        have hb2 := hall a2 (by simp)
        have hS1 : Six w b o a A1 m1 c1 := by simpa using hS1
        have hS2 : Six w b (o + 6) a2 A2 m2 c2 := by simpa using hS2
        have h19 : ¬ (op = 19 ∨ op = 20) := by omega
        simp only [if_neg h19] at hlen ⊢
        by_cases h18 : op ≤ 18
        · have h21 : ¬ 21 ≤ op := by omega
          simp only [if_neg h21] at hlen ⊢
          obtain ⟨l1, l2⟩ := lvlZ_bd (op := op) (by omega) (by omega)
          by_cases h4 : lvlZ op = 4
          · simp only [if_pos h4] at hlen ⊢
            rw [h4] at hlen ⊢
            have hl1 : (opnd 5 a.op (txtE d a)).length ≤ 1000000000 := by
              have h5 : (4 : Int) + 1 = 5 := rfl
              rw [h5] at hlen
              simp only [List.length_append] at hlen; omega
            have hl2 : (opnd 5 a2.op (txtE d a2)).length ≤ 1000000000 := by
              have h5 : (4 : Int) + 1 = 5 := rfl
              rw [h5] at hlen
              simp only [List.length_append] at hlen; omega
            have h := refx_four op n s name src b o c a a2 A1 A2 m1 c1 m2 c2 _ _ w (by omega) h18 h4 hbl hS1 (in_texts hE 5 hx1 hb1 hl1) (by rw [arr_size]; exact hl1) hS2 (in_texts hE 5 hx2 hb2 hl2) (by rw [arr_size]; exact hl2)
            simpa using h
          · simp only [if_neg h4] at hlen ⊢
            rw [Int.add_zero] at hlen ⊢
            have hl1 : (opnd (lvlZ op) a.op (txtE d a)).length ≤ 1000000000 := by simp only [List.length_append] at hlen; omega
            have hl2 : (opnd (lvlZ op + 1) a2.op (txtE d a2)).length ≤ 1000000000 := by simp only [List.length_append] at hlen; omega
            have h37 : lvlZ op ≠ 3 ∧ lvlZ op ≠ 7 := by
              have h : op = 6 ∨ op = 7 ∨ op = 8 ∨ op = 9 ∨ op = 10 ∨ op = 11 ∨ op = 12 ∨ op = 13 ∨ op = 14 ∨ op = 15 ∨ op = 16 ∨ op = 17 ∨ op = 18 := by omega
              rcases h with rfl | rfl | rfl | rfl | rfl | rfl | rfl | rfl | rfl | rfl | rfl | rfl | rfl <;> decide
            have h := refx_two op n s name src b o c a a2 A1 A2 m1 c1 m2 c2 _ _ w (by omega) h18 (lvlZ op) rfl h4 h37.1 h37.2 l1 l2 hbl hS1 (in_texts hE _ hx1 hb1 hl1) (by rw [arr_size]; exact hl1) hS2 (in_texts hE _ hx2 hb2 hl2) (by rw [arr_size]; exact hl2)
            simpa using h
        · have h21 : 21 ≤ op := by omega
          have hn21 : ¬ op = 21 := by omega
          simp only [if_pos h21, if_neg hn21] at hlen ⊢
          have hr2 := rowsT_ge (d := d) (a := a) (name := name) (src := src)
          have hl1 : (rowsT name src a.op a.n (txtE d a)).length ≤ 999999994 ∧ (txtE d a2).length ≤ 1000000000 := by
            have hs : (sgnL op).length = 3 := by
              have h : op = 22 ∨ op = 23 ∨ op = 24 := by omega
              rcases h with rfl | rfl | rfl <;> rfl
            simp only [List.length_append, List.length_cons, List.length_nil] at hlen
            omega
          have hq := rows_texts hE name src hx1 hb1 (by omega) (hnm (by omega)).1 (hnm (by omega)).2
          have hq2 := expr_texts hE hx2 hb2 hl1.2
          have hop : op = 22 ∨ op = 23 ∨ op = 24 := by omega
          rcases hop with rfl | rfl | rfl
          · have h := refx_22 n s name src b o c a a2 A1 A2 m1 c1 m2 c2 _ _ w hbl hS1 hq (by rw [arr_size]; omega) hS2 hq2 (by rw [arr_size]; omega)
            simpa using h
          · have h := refx_23 n s name src b o c a a2 A1 A2 m1 c1 m2 c2 _ _ w hbl hS1 hq (by rw [arr_size]; omega) hS2 hq2 (by rw [arr_size]; omega)
            simpa using h
          · have h := refx_24 n s name src b o c a a2 A1 A2 m1 c1 m2 c2 _ _ w hbl hS1 hq (by rw [arr_size]; omega) hS2 hq2 (by rw [arr_size]; omega)
            simpa using h
end Go.Proofs.YthiimingnmbgmaaDoor
