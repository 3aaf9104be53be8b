/- Parts of this proof, one behind the other: PrtN, PrtO, PrtQ. -/
import Derived.Test.YthiimingnmbgmaaDoorPe35
import Derived.Test.YthiimingnmbgmaaDoorPe6
import Derived.Test.YthiimingnmbgmaaDoorPe29
namespace Go.Proofs.YthiimingnmbgmaaDoor
open Go.RowKit Go.Afx

set_option maxHeartbeats 1000000 in
/-- the closure writes the expression that it has kept -/
theorem kept_any (F : Nat → Prop) (d : Nat) (e : Ex) (row : List Value) (x g : Nat) (t : List UInt8) (br : Bool) (w : World) (hx : ExAt F d w row e) (hb : builtE d e = true) (hF : ∀ k, F k → k < g) (hk : IsBlk w x 35 row.toArray) (h : WtAt g t br w) (hm : HasMax w) (hg : 0 < g) (hlen : t.length + (txtE d e).length ≤ 1000000000) :
    Calls Tryd.prog 16 #[.pointer (some ⟨g, 0, none⟩), .pointer (some ⟨x, 0, none⟩)] w fun e' w' => e' = .returned (.tuple #[]) ∧ WtAt g (t ++ txtE d e) (br || nlE d e) w' ∧ Wrote g w w' := by
  obtain ⟨A, m, c, hrow⟩ := ex_row hx
  have Hc := Lib.hid (expr_any d F e row g t br w hx hb hF h hm hg hlen)
  subst hrow
  obtain ⟨x0, x1, x2, x3, x4, x5, xl⟩ := box6 hk
  clear hx hb hF hk h hm hg hlen
  go_enter Tryd.func16, Tryd.ntmps16
  go_wp2_with (go_at_call 17; refine Hc.out.mono ?_)
  rintro e' w2 ⟨rfl, h1, h2⟩
  have H := Lib.hid (And.intro h1 h2)
  clear h1 h2
  go_wp2
  go_end0
  exact ⟨rfl, H.out.1, H.out.2⟩
theorem printed_no (f : Value) (w : World) : Calls Tryd.prog 14 #[.bool false, f] w fun e w' => e = .returned (.tuple #[.string ⟨#[]⟩, .int .i64 1]) ∧ w = w' := by
  go_enter Tryd.func14, Tryd.ntmps14
  go_wp2
  go_ret2
  exact ⟨rfl, rfl⟩
/-- a text, or why there is none -/
def printS (br : Bool) (t : List UInt8) : List UInt8 × Int := if br then ([], 1) else if 8000 < t.length then ([], 5) else (t, 0)
theorem wt_new (w : World) : WtAt w.heap.size [] false (w.alloc (.cells #[.pointer none, .slice none 0 0, .bool false] 70)) := .inl ⟨none, 0, IsBlk.laid _ _ _, World.ownsRow_nil _ _ _ _⟩
set_option maxHeartbeats 2000000 in
theorem printed_yes (x : Nat) (t : List UInt8) (br : Bool) (w : World) (ht : t ≠ [])
    (hc : ∀ W, Below w.heap.size w W → WtAt w.heap.size [] false W → Calls Tryd.prog 16 #[.pointer (some ⟨w.heap.size, 0, none⟩), .pointer (some ⟨x, 0, none⟩)] W fun e' w' => e' = .returned (.tuple #[]) ∧ WtAt w.heap.size t br w' ∧ Wrote w.heap.size W w') :
    Calls Tryd.prog 14 #[.bool true, .func (.func 16) #[] #[.pointer (some ⟨x, 0, none⟩)]] w fun e w' => e = .returned (.tuple #[.string ⟨(printS br t).1.toArray⟩, .int .i64 (printS br t).2]) ∧ Below w.heap.size w w' := by
  have hb1 : Below w.heap.size w (w.alloc (.cells #[.pointer none, .slice none 0 0, .bool false] 70)) := (Below.refl _ _).alloc (Nat.le_refl _) _
  have Hc := Lib.hid (hc _ hb1 (wt_new w))
  have Hb1 := Lib.hid hb1
  have Ht := Lib.hid ht
  clear hc hb1 ht
  go_enter Tryd.func14, Tryd.ntmps14
  go_wp2_with (go_at_call 16; refine Hc.out.mono ?_)
  rintro e' w2 ⟨rfl, h2, hr2⟩
  obtain ⟨b1, _, b3⟩ := h2.brk
  have Hr2 := Lib.hid (And.intro h2 (Hb1.out.trans hr2.1))
  have Hln := Lib.hid (len_any _ _ _ _ h2)
  have Hst := Lib.hid (string_any _ _ _ _ h2 Ht.out)
  clear h2 hr2
  cases br
  · rcases Classical.em (8000 < t.length) with hl | hl
    · have hd : decide ((8000 : Int) < (t.length : Int)) = true := by simp; omega
      have e : printS false t = ([], 5) := by unfold printS; rw [if_neg (by decide), if_pos hl]
      have He := Lib.hid e
      clear hl e
      go_wp2_with (go_at_call 24; refine Hln.out.mono ?_; rintro e' w3 ⟨rfl, rfl⟩)
      go_ret2
      rw [He.out]
      exact ⟨rfl, Hr2.out.2⟩
    · have hd : decide ((8000 : Int) < (t.length : Int)) = false := by simp; omega
      have e : printS false t = (t, 0) := by unfold printS; rw [if_neg (by decide), if_neg hl]
      have He := Lib.hid e
      clear hl e
      go_wp2_with (first | (go_at_call 24; refine Hln.out.mono ?_; rintro e' w3 ⟨rfl, rfl⟩) | (go_at_call 25; refine Hst.out.mono ?_; rintro e' w4 ⟨rfl, hb4⟩))
      go_ret2
      rw [He.out]
      exact ⟨rfl, Hr2.out.2.trans hb4⟩
  · have e : printS true t = ([], 1) := by unfold printS; rw [if_pos rfl]
    have He := Lib.hid e
    clear e
    go_wp2
    go_ret2
    rw [He.out]
    exact ⟨rfl, Hr2.out.2⟩

/-- what print.Expr answers -/
def exprS (d : Nat) (e : Ex) : List UInt8 × Int := if rightE d e then printS (nlE d e) (txtE d e) else ([], 1)
set_option maxHeartbeats 2000000 in
theorem printExpr_any (F : Nat → Prop) (d : Nat) (e : Ex) (row : List Value) (w : World) (h : ExAt F d w row e) (hd : d ≤ 10000) (hF : ∀ k, F k → k < w.heap.size) (hm : HasMax w) (hlen : rightE d e = true → (txtE d e).length ≤ 1000000000) :
    Calls Tryd.prog 7 #[.agg row.toArray] w fun x w' => x = .returned (.tuple #[.string ⟨(exprS d e).1.toArray⟩, .int .i64 (exprS d e).2]) ∧ Below w.heap.size w w' := by
  obtain ⟨A, m, c, hrow⟩ := ex_row h
  obtain ⟨w1, Hw1⟩ : ∃ w1, Hid (w1 = w.alloc (.cells row.toArray 35)) := ⟨_, rfl⟩
  have hb1 : Below w.heap.size w w1 := by rw [Hw1.out]; exact (Below.refl _ _).alloc (Nat.le_refl _) _
  have hk1 : IsBlk w1 w.heap.size 35 row.toArray := by rw [Hw1.out]; exact IsBlk.laid _ _ _
  have Hri := Lib.hid (rightE_any F d e row w1 (h.below hb1) hd)
  have Hyes := Lib.hid (fun W (hW : Below w1.heap.size w1 W) (hr : rightE d e = true) => printed_yes w.heap.size (txtE d e) (nlE d e) W (txt_ne (by unfold rightE at hr; simp only [Bool.and_eq_true] at hr; exact hr.2)) (fun W2 h2 hwt => by
    have hbe : builtE d e = true := by unfold rightE at hr; simp only [Bool.and_eq_true] at hr; exact hr.2
    have hall : Below w.heap.size w W2 := hb1.trans ((hW.mono hb1.size).trans (h2.mono (Nat.le_trans hb1.size hW.size)))
    have hk := (hk1.as_was (hW.block _ hk1.lt)).as_was (h2.block _ (Nat.lt_of_lt_of_le hk1.lt hW.size))
    have hmg := Nat.lt_of_lt_of_le hm.lt (Nat.le_trans hb1.size hW.size)
    have hres := kept_any F d e row w.heap.size W.heap.size [] false W2 (h.below hall) hbe (fun k hk => Nat.lt_of_lt_of_le (hF k hk) (Nat.le_trans hb1.size hW.size)) hk hwt (hm.below hm.lt hall) hmg (by simpa using hlen hr)
    rw [List.nil_append, Bool.false_or] at hres
    exact hres))
  have Hb1 := Lib.hid hb1
  have Hex := Lib.hid (show exprS d e = if rightE d e then printS (nlE d e) (txtE d e) else ([], 1) from rfl)
  generalize exprS d e = fin at *
  obtain ⟨x0, x1, x2, x3, x4, x5, xl⟩ := box6 (show IsBlk w1 w.heap.size 35 #[.int .i64 e.op, .int .i64 e.n, .string e.s, .string e.name, .string e.src, .slice A m c] from by rw [hrow] at hk1; exact hk1)
  subst hrow
  have hmf : ∀ (fn : Fn) (first cap : Array Value) (w : World), (Instr.makeFunc fn first cap).run Tryd.prog w = .ok (.func fn first cap) w := fun _ _ _ _ => rfl
  clear h hb1 hk1 hF hm hlen hd
  generalize rightE d e = ri at *
  cases ri
  · clear Hyes
    go_enter Tryd.func7, Tryd.ntmps7
    go_upto_region 1 with (fail)
    rw [← Hw1.out]
    go_wp2_with (first | (go_at_call 15; refine Hri.out.mono ?_; rintro x w2 ⟨rfl, hb2⟩) | (go_at_call 14; refine (printed_no _ _).mono ?_; rintro x w3 ⟨rfl, rfl⟩))
    go_ret2
    rw [Hex.out]
    exact ⟨rfl, Hb1.out.trans (hb2.mono Hb1.out.size)⟩
  · have Hy := Lib.hid (fun W hW => Hyes.out W hW rfl)
    clear Hyes
    go_enter Tryd.func7, Tryd.ntmps7
    go_upto_region 1 with (fail)
    rw [← Hw1.out]
    go_wp2_with (first | (go_at_call 15; refine Hri.out.mono ?_; rintro x w2 ⟨rfl, hb2⟩) | (go_at_call 14; refine (Hy.out _ hb2).mono ?_; rintro x w3 ⟨rfl, hb3⟩))
    go_ret2
    rw [Hex.out]
    exact ⟨rfl, Hb1.out.trans ((hb2.mono Hb1.out.size).trans (hb3.mono (Nat.le_trans Hb1.out.size hb2.size)))⟩
end Go.Proofs.YthiimingnmbgmaaDoor

namespace Go.Proofs.YthiimingnmbgmaaDoor
open Go.RowKit Go.Afx

theorem txt_len {F : Nat → Prop} {w : World} : ∀ (d : Nat) (e : Ex) (row : List Value), ExAt F d w row e → builtE d e = true → (txtE d e).length ≤ 500 * cntE d e := by
  intro d
  induction d with
  | zero => intro e row hx h; cases h
  | succ d ih =>
    intro e row hx h
    obtain ⟨o1, o2⟩ := built_op h
    obtain ⟨op, n, s, name, src, args⟩ := e
    have o1 : 1 ≤ op := o1
    have o2 : op ≤ 24 := o2
    obtain ⟨ha, hf, hall⟩ := fields_op h
    have hc : cntE (d + 1) (.mk op n s name src args) = 1 + (args.map (cntE d)).sum := rfl
    have hsg := sgnL_len o1 o2
    rw [txt_op, hc]
    by_cases h5 : op ≤ 5
    · suffices hs : (if op = 1 then decS n else if op = 2 then quoteS s else if op = 3 then (if n = 1 then trueL else falseL) else if op = 4 then name.data.toList else if op = 5 then name.data.toList ++ [46] ++ s.data.toList else []).length ≤ 500 by
        have h5 : op = 1 ∨ op = 2 ∨ op = 3 ∨ op = 4 ∨ op = 5 := by omega
        rcases h5 with rfl | rfl | rfl | rfl | rfl <;> exact Nat.le_trans hs (by omega)
      have h5 : op = 1 ∨ op = 2 ∨ op = 3 ∨ op = 4 ∨ op = 5 := by omega
      rcases h5 with rfl | rfl | rfl | rfl | rfl
      · show (decS n).length ≤ 500
        unfold decS
        have h1 := decS_len (show okI n from hx.open_.2.1)
        unfold decS at h1
        omega
      · have e : fieldsR 2 n s name src = (decide (s.size ≤ 200) && decide (n = 0) && noS name && noS src) := rfl
        rw [e] at hf
        simp only [Bool.and_eq_true, decide_eq_true_eq] at hf
        show (quoteS s).length ≤ 500
        unfold quoteS
        have h1 := dbl_len s.data.toList
        have h2 : s.data.toList.length = s.size := rfl
        have h3 := hf.1.1.1
        simp only [List.length_append, List.length_cons, List.length_nil]
        omega
      · show (if n = 1 then trueL else falseL).length ≤ 500
        split <;> decide
      · have e : fieldsR 4 n s name src = (freeB name && decide (n = 0) && noS s && noS src) := rfl
        rw [e] at hf
        simp only [Bool.and_eq_true] at hf
        have := named_len hf.1.1.1
        show name.data.toList.length ≤ 500
        omega
      · have e : fieldsR 5 n s name src = (freeB name && freeB s && decide (n = 0) && noS src) := rfl
        rw [e] at hf
        simp only [Bool.and_eq_true] at hf
        have h1 := named_len hf.1.1.1
        have h2 := named_len hf.1.1.2
        show (name.data.toList ++ [46] ++ s.data.toList).length ≤ 500
        simp only [List.length_append, List.length_cons, List.length_nil]
        omega
    · rw [if_neg (by omega), if_neg (by omega), if_neg (by omega), if_neg (by omega), if_neg (by omega)]
      obtain ⟨A, c, rfl, _, _, hat⟩ := args_at hx
      rcases args with _ | ⟨a, r⟩
      · simp
      · obtain ⟨b, o, _, _, _, hget⟩ := hat (by simp)
        obtain ⟨A1, m1, c1, _, hx1⟩ := hget 0 a rfl
        have h1 := ih a _ hx1 (hall a (by simp))
        rcases r with _ | ⟨a2, r⟩
        · simp only [List.map_cons, List.map_nil, List.sum_cons, List.sum_nil]
          split
          · have := opnd_len (lvlZ op) a.op (txtE d a)
            rw [List.length_append]
            omega
          · split
            · rename_i h21
              have hr : fieldsR op n s name src = (freeB name && freeB src && decide (n = 0) && noS s) := by
                unfold fieldsR
                rw [if_neg (by omega), if_neg (by omega), if_neg (by omega), if_neg (by omega), if_neg (by omega), if_pos]
                simp [rowsB]; omega
              rw [hr] at hf
              simp only [Bool.and_eq_true] at hf
              have n1 := named_len hf.1.1.1
              have n2 := named_len hf.1.1.2
              have hw := whereT_len a.op a.n (txtE d a)
              unfold rowsT
              split <;> simp only [List.length_append, List.length_cons, List.length_nil] <;> omega
            · have h3 := opnd_len (lvlZ op + if lvlZ op = 4 then 1 else 0) a.op (txtE d a)
              simp only [List.length_append, List.length_cons, List.length_nil]
              omega
        · obtain ⟨A2, m2, c2, _, hx2⟩ := hget 1 a2 rfl
          have h2 := ih a2 _ hx2 (hall a2 (by simp))
          simp only [List.map_cons, List.sum_cons]
          split
          · have := opnd_len (lvlZ op) a.op (txtE d a)
            rw [List.length_append]
            omega
          · split
            · rename_i h21
              have hr : fieldsR op n s name src = (freeB name && freeB src && decide (n = 0) && noS s) := by
                unfold fieldsR
                rw [if_neg (by omega), if_neg (by omega), if_neg (by omega), if_neg (by omega), if_neg (by omega), if_pos]
                simp [rowsB]; omega
              rw [hr] at hf
              simp only [Bool.and_eq_true] at hf
              have n1 := named_len hf.1.1.1
              have n2 := named_len hf.1.1.2
              have hw := whereT_len a.op a.n (txtE d a)
              unfold rowsT
              split <;> simp only [List.length_append, List.length_cons, List.length_nil] <;> omega
            · have h3 := opnd_len (lvlZ op + if lvlZ op = 4 then 1 else 0) a.op (txtE d a)
              have h4 := opnd_len (lvlZ op + 1) a2.op (txtE d a2)
              simp only [List.length_append, List.length_cons, List.length_nil]
              omega
/-- a right expression is small, its text of a bounded length -/
theorem right_len {F : Nat → Prop} {w : World} {d : Nat} {e : Ex} {row : List Value} (hx : ExAt F d w row e) (hd : d ≤ 900) (h : rightE d e = true) : (txtE d e).length ≤ 1000000000 := by
  unfold rightE at h
  simp only [Bool.and_eq_true] at h
  obtain ⟨h1, h2⟩ := h
  obtain ⟨c1, c2, _⟩ := sizeE_cts d 0 e (by omega) hd
  simp only [smallZ, Bool.and_eq_true, decide_eq_true_eq] at h1
  have h3 := txt_len d e row hx h2
  omega
theorem right_cnt {d : Nat} {e : Ex} (hd : d ≤ 900) : rightE d e = (decide (cntE d e ≤ 300) && decide (dptE d e ≤ 12) && builtE d e) := by
  obtain ⟨c1, c2, _⟩ := sizeE_cts d 0 e (by omega) hd
  unfold rightE smallZ
  congr 1
  by_cases h : cntE d e ≤ 300
  · have e1 : (sizeE d 0 e).1 ≤ 300 := by omega
    have e2 := c2 (by omega)
    rw [e2, decide_eq_true e1, decide_eq_true h]
    simp only [Bool.true_and, decide_eq_decide]
    omega
  · have e1 : ¬ (sizeE d 0 e).1 ≤ 300 := by omega
    rw [decide_eq_false e1, decide_eq_false h]
    rfl
end Go.Proofs.YthiimingnmbgmaaDoor

namespace Go.Proofs.YthiimingnmbgmaaDoor
open Go.RowKit Go.Afx

def bindS (op : Int) : List UInt8 := if op < 6 ∨ 20 < op then [] else sgnL op
def BindQ (op : Int) (w : World) (e : Ending) (w' : World) : Prop := e = .returned (.tuple #[.string ⟨(bindS op).toArray⟩, .int .i64 (lvlZ op)]) ∧ Below w.heap.size w w'
theorem two_new (w : World) (o o2 : Obj) : Below w.heap.size w ((w.alloc o).alloc o2) := ((Below.refl _ _).alloc (Nat.le_refl _) _).alloc (by simp) _
set_option maxHeartbeats 4000000 in
theorem bind_a (op : Int) (w : World) (h : op = 1 ∨ op = 2 ∨ op = 3 ∨ op = 4 ∨ op = 5 ∨ op = 21 ∨ op = 22 ∨ op = 23 ∨ op = 24) : Calls Tryd.prog 19 #[.int .i64 op] w (BindQ op w) := by
  rcases h with rfl | rfl | rfl | rfl | rfl | rfl | rfl | rfl | rfl
  all_goals
    go_enter Tryd.func19, Tryd.ntmps19
    go_wp2
    go_ret2
    exact ⟨rfl, two_new _ _ _⟩
set_option maxHeartbeats 8000000 in
theorem bind_b (op : Int) (w : World) (h : op = 6 ∨ op = 7 ∨ op = 8 ∨ op = 9 ∨ op = 10) : Calls Tryd.prog 19 #[.int .i64 op] w (BindQ op w) := by
  rcases h with rfl | rfl | rfl | rfl | rfl
  all_goals
    go_enter Tryd.func19, Tryd.ntmps19
    go_wp2
    go_region
    all_goals
      go_wp2
      go_ret2
      exact ⟨rfl, by repeat (first | exact two_new _ _ _ | refine Below.drew ?_)⟩
set_option maxHeartbeats 8000000 in
theorem bind_c (op : Int) (w : World) (h : op = 11 ∨ op = 12 ∨ op = 13 ∨ op = 14 ∨ op = 15) : Calls Tryd.prog 19 #[.int .i64 op] w (BindQ op w) := by
  rcases h with rfl | rfl | rfl | rfl | rfl
  all_goals
    go_enter Tryd.func19, Tryd.ntmps19
    go_wp2
    go_region
    all_goals
      go_wp2
      go_ret2
      exact ⟨rfl, by repeat (first | exact two_new _ _ _ | refine Below.drew ?_)⟩
set_option maxHeartbeats 8000000 in
theorem bind_d (op : Int) (w : World) (h : op = 16 ∨ op = 17 ∨ op = 18 ∨ op = 19 ∨ op = 20) : Calls Tryd.prog 19 #[.int .i64 op] w (BindQ op w) := by
  rcases h with rfl | rfl | rfl | rfl | rfl
  all_goals
    go_enter Tryd.func19, Tryd.ntmps19
    go_wp2
    go_region
    all_goals
      go_wp2
      go_ret2
      exact ⟨rfl, by repeat (first | exact two_new _ _ _ | refine Below.drew ?_)⟩
theorem bind_any (op : Int) (w : World) (h1 : 1 ≤ op) (h2 : op ≤ 24) : Calls Tryd.prog 19 #[.int .i64 op] w (BindQ op w) := by
  by_cases h : 6 ≤ op ∧ op ≤ 20
  · by_cases h1 : op ≤ 10
    · exact bind_b op w (by omega)
    · by_cases h2 : op ≤ 15
      · exact bind_c op w (by omega)
      · exact bind_d op w (by omega)
  · exact bind_a op w (by omega)
end Go.Proofs.YthiimingnmbgmaaDoor
