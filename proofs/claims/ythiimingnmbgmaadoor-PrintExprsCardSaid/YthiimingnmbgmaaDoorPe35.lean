/- Parts of this proof, one behind the other: PrtL, PrtM. -/
import Derived.Test.YthiimingnmbgmaaDoorPe32
import Derived.Test.YthiimingnmbgmaaDoorPe34
import Derived.Test.YthiimingnmbgmaaDoorPe11
namespace Go.Proofs.YthiimingnmbgmaaDoor
open Go.RowKit Go.Afx

theorem operand_does {F : Nat → Prop} {d g : Nat} {w : World} (hE : ExprC F d) {a : Ex} {A : Option Addr} {m c : Nat} (least : Int) (hx : ExAt F d w (rowOf a A m c) a) (hb : builtE d a = true) (hF : ∀ k, F k → k < g) (hm : HasMax w) (hg : 0 < g) :
    Does g w 36 #[.pointer (some ⟨g, 0, none⟩), .agg (rowOf a A m c).toArray, .int .i64 least] (opnd least a.op (txtE d a)) (nlE d a) :=
  fun W t br hW h hl => operand_in F d hE a _ least g t br W (ExAt.wrote hx hF hW) hb hF h (hm.below hg hW.1) hg hl
theorem rows_does {F : Nat → Prop} {d g : Nat} {w : World} (hE : ExprC F d) {a : Ex} {A : Option Addr} {m c : Nat} (name src : ByteArray) (hx : ExAt F d w (rowOf a A m c) a) (hb : builtE d a = true) (hF : ∀ k, F k → k < g) (hm : HasMax w) (hg : 0 < g) :
    Does g w 37 #[.pointer (some ⟨g, 0, none⟩), .string name, .string src, .agg (rowOf a A m c).toArray] (rowsT name src a.op a.n (txtE d a)) (nlE d a) :=
  fun W t br hW h hl => rows_in F d hE a _ name src g t br W (ExAt.wrote hx hF hW) hb hF h (hm.below hg hW.1) hg hl
theorem expr_does {F : Nat → Prop} {d g : Nat} {w : World} (hE : ExprC F d) {a : Ex} {A : Option Addr} {m c : Nat} (hx : ExAt F d w (rowOf a A m c) a) (hb : builtE d a = true) (hF : ∀ k, F k → k < g) (hm : HasMax w) (hg : 0 < g) :
    Does g w 17 #[.pointer (some ⟨g, 0, none⟩), .agg (rowOf a A m c).toArray] (txtE d a) (nlE d a) :=
  fun W t br hW h hl => hE a _ g t br W (ExAt.wrote hx hF hW) hb hF h (hm.below hg hW.1) hg hl
theorem len_args {op : Int} {args : List Ex} (h : arityB op = args.length) (h6 : 6 ≤ op) (h24 : op ≤ 24) : (args.length = 1 ∧ (op = 19 ∨ op = 20 ∨ op = 21)) ∨ (args.length = 2 ∧ (op ≤ 18 ∨ op = 22 ∨ op = 23 ∨ op = 24)) := by
  unfold arityB at h
  rw [if_neg (by omega)] at h
  split at h
  · right; omega
  · split at h
    · left; omega
    · split at h
      · left; omega
      · rw [if_pos (by omega)] at h
        right; omega
theorem expr_leafs {F : Nat → Prop} {d : Nat} {op n : Int} {s name src : ByteArray} {args : List Ex} {row : List Value} {g : Nat} {t : List UInt8} {br : Bool} {w : World} (hx : ExAt F (d + 1) w row (.mk op n s name src args)) (hb : builtE (d + 1) (.mk op n s name src args) = true) (h : WtAt g t br w) (hm : HasMax w) (hg : 0 < g) (hlen : t.length + (txtE (d + 1) (.mk op n s name src args)).length ≤ 1000000000) (h5 : op = 1 ∨ op = 2 ∨ op = 3 ∨ op = 4 ∨ op = 5) :
    Calls Tryd.prog 17 #[.pointer (some ⟨g, 0, none⟩), .agg row.toArray] w fun e' w' => e' = .returned (.tuple #[]) ∧ WtAt g (t ++ txtE (d + 1) (.mk op n s name src args)) (br || nlE (d + 1) (.mk op n s name src args)) w' ∧ Wrote g w w' := by
  obtain ⟨ha, hf, _⟩ := fields_op hb
  obtain rfl := no_args ha h5
  obtain ⟨A, c, rfl, _, _, _⟩ := args_at hx
  obtain ⟨_, hn, _⟩ := hx.open_
  have hn : okI n := hn
  unfold okI at hn
  rw [txt_op] at hlen ⊢
  rw [nl_op]
  rcases h5 with rfl | rfl | rfl | rfl | rfl
  · have e : fieldsR 1 n s name src = (decide (0 ≤ n) && noS s && noS name && noS src) := rfl
    rw [e] at hf
    simp only [Bool.and_eq_true, decide_eq_true_eq] at hf
    have h := expr_int n s name src A ([] : List Ex).length c g t br w h hf.1.1.1 hn.2 hlen
    simpa using h
  · have e : fieldsR 2 n s name src = (decide (s.size ≤ 200) && decide (n = 0) && noS name && noS src) := rfl
    rw [e] at hf
    simp only [Bool.and_eq_true, decide_eq_true_eq] at hf
    have h := expr_text n s name src A ([] : List Ex).length c g t br w h hf.1.1.1 hm hg hlen
    simpa using h
  · have e : fieldsR 3 n s name src = ((decide (n = 0) || decide (n = 1)) && noS s && noS name && noS src) := rfl
    rw [e] at hf
    simp only [Bool.and_eq_true, Bool.or_eq_true, decide_eq_true_eq] at hf
    rcases hf.1.1.1 with rfl | rfl
    · have h := expr_false s name src A ([] : List Ex).length c g t br w h hlen
      simpa using h
    · have h := expr_true s name src A ([] : List Ex).length c g t br w h hlen
      simpa using h
  · have h := expr_var n s name src A ([] : List Ex).length c g t br w h hlen
    simpa using h
  · have h := expr_col n s name src A ([] : List Ex).length c g t br w h hlen
    simpa using h
theorem expr_any : ∀ (d : Nat) (F : Nat → Prop), ExprC F d := by
  intro d
  induction d with
  | zero => intro F e row g t br w hx; exact hx.elim
  | succ d ih =>
    intro F e row g t br w hx hb hF h hm hg hlen
    obtain ⟨o1, o2⟩ := built_op hb
    obtain ⟨op, n, s, name, src, args⟩ := e
    have o1 : 1 ≤ op := o1
    have o2 : op ≤ 24 := o2
    by_cases h5 : op ≤ 5
    · exact expr_leafs hx hb h hm hg hlen (by omega)
    · obtain ⟨ha, hf, hall⟩ := fields_op hb
      obtain ⟨A, c, rfl, _, _, hat⟩ := args_at hx
      have hE := ih F
      have hne : ¬ op = 2 := by omega
      rw [txt_op, if_neg (by omega), if_neg hne, if_neg (by omega), if_neg (by omega), if_neg (by omega)] at hlen ⊢
      rw [nl_op, decide_eq_false hne, Bool.false_and, Bool.false_or]
      rcases len_args ha (by omega) o2 with ⟨hl, hop⟩ | ⟨hl, hop⟩
      · obtain ⟨a, rfl⟩ := List.length_eq_one_iff.1 hl
        obtain ⟨b, o, rfl, hFb, hbl, hget⟩ := hat (by simp)
        obtain ⟨A1, m1, c1, hS1, hx1⟩ := hget 0 a rfl
        have hb1 := hall a (by simp)
        have hbg := hF b hFb
        have hS1 : Six w b o a A1 m1 c1 := by simpa using hS1
        by_cases h20 : op = 19 ∨ op = 20
        · simp only [if_pos h20] at hlen ⊢
          have h := expr_one op n (lvlZ op) (sgnL op) s name src b o c a A1 m1 c1 _ _ g t br w h20 rfl rfl h hbg hS1 (operand_does hE (lvlZ op) hx1 hb1 hF hm hg) hlen
          simpa using h
        · simp only [if_neg h20] at hlen ⊢
          have h21 : op = 21 := by omega
          subst h21
          have h := expr_count 21 n (lvlZ 21) (sgnL 21) s name src b o c a A1 m1 c1 _ _ g t br w rfl rfl rfl h hbg hS1 (rows_does hE name src hx1 hb1 hF hm hg) (by simpa using hlen)
          simpa using h
      · obtain ⟨a, a2, rfl⟩ : ∃ a a2, args = [a, a2] := by
          rcases args with _ | ⟨a, _ | ⟨a2, _ | ⟨a3, r⟩⟩⟩ <;> simp at hl
          exact ⟨a, a2, rfl⟩
        obtain ⟨b, o, rfl, hFb, hbl, hget⟩ := hat (by simp)
        obtain ⟨A1, m1, c1, hS1, hx1⟩ := hget 0 a rfl
        obtain ⟨A2, m2, c2, hS2, hx2⟩ := hget 1 a2 rfl
        have hb1 := hall a (by simp)
        have hb2 := hall a2 (by simp)
        have hbg := hF b hFb
        have hS1 : Six w b o a A1 m1 c1 := by simpa using hS1
        have hS2 : Six w b (o + 6) a2 A2 m2 c2 := by simpa using hS2
        have h19 : ¬ (op = 19 ∨ op = 20) := by omega
        simp only [if_neg h19] at hlen ⊢
        by_cases h18 : op ≤ 18
        · have h21 : ¬ 21 ≤ op := by omega
          simp only [if_neg h21] at hlen ⊢
          obtain ⟨l1, l2⟩ := lvlZ_bd (op := op) (by omega) (by omega)
          have elf : (if lvlZ op = 4 then lvlZ op + 1 else lvlZ op) = lvlZ op + (if lvlZ op = 4 then 1 else 0) := by split <;> omega
          have h := expr_two op n (lvlZ op) (lvlZ op + if lvlZ op = 4 then 1 else 0) (sgnL op) s name src b o c a a2 A1 A2 m1 c1 m2 c2 _ _ _ _ g t br w (by omega) h18 rfl rfl elf.symm l1 l2 h hbg hS1 hS2 (operand_does hE _ hx1 hb1 hF hm hg) (operand_does hE _ hx2 hb2 hF hm hg) hlen
          simpa using h
        · have h21 : 21 ≤ op := by omega
          have hn21 : ¬ op = 21 := by omega
          simp only [if_pos h21, if_neg hn21] at hlen ⊢
          have h := expr_over op n (lvlZ op) (sgnL op) s name src b o c a a2 A1 A2 m1 c1 m2 c2 _ _ _ _ g t br w (by omega) rfl rfl h hbg hS1 (rows_does hE name src hx1 hb1 hF hm hg) hS2 (expr_does hE hx2 hb2 hF hm hg) hlen
          simpa using h
end Go.Proofs.YthiimingnmbgmaaDoor

namespace Go.Proofs.YthiimingnmbgmaaDoor
open Go.RowKit Go.Afx

def rightE (d : Nat) (e : Ex) : Bool := smallZ (sizeE d 0 e) && builtE d e
theorem ret_b {a b : Bool} (h : a = b) : Ending.returned (.bool a) = .returned (.bool b) := by rw [h]
set_option maxHeartbeats 1000000 in
theorem rightE_any (F : Nat → Prop) (d : Nat) (e : Ex) (row : List Value) (w : World) (h : ExAt F d w row e) (hd : d ≤ 10000) :
    Calls Tryd.prog 15 #[.agg row.toArray] w fun x w' => x = .returned (.bool (rightE d e)) ∧ Below w.heap.size w w' := by
  have hq : rightE d e = (smallZ (sizeE d 0 e) && builtE d e) := rfl
  obtain ⟨A, m, c, hrow⟩ := ex_row h
  obtain ⟨w1, Hw1⟩ : ∃ w1, Hid (w1 = w.alloc (.cells row.toArray 35)) := ⟨_, rfl⟩
  have hb1 : Below w.heap.size w w1 := by rw [Hw1.out]; exact (Below.refl _ _).alloc (Nat.le_refl _) _
  have hk1 : IsBlk w1 w.heap.size 35 row.toArray := by rw [Hw1.out]; exact IsBlk.laid _ _ _
  have Hx := Lib.hid (fun W (hW : Below w1.heap.size w1 W) => (show IsBlk W w.heap.size 35 row.toArray from hk1.as_was (hW.block _ hk1.lt)))
  have Hs := Lib.hid (sizeE_any F d e row 0 w1 (h.below hb1) (by omega) (by omega))
  have Hb := Lib.hid (fun W (hW : Below w.heap.size w W) => builtE_any F d e row W (h.below hW))
  have Hb1 := Lib.hid hb1
  subst hrow
  generalize sizeE d 0 e = s at *
  generalize builtE d e = qb at *
  generalize rightE d e = fin at *
  have Hfin := Lib.hid hq
  obtain ⟨s1, s2⟩ := s
  clear hq h hb1 hk1
  go_enter Tryd.func15, Tryd.ntmps15
  go_upto_region 1 with (fail)
  rw [← Hw1.out]
  obtain ⟨x0, x1, x2, x3, x4, x5, xl⟩ := box6 (Hx.out _ (Below.refl _ _))
  go_upto_region 2 with (go_at_call 26; refine Hs.out.mono ?_; rintro x w2 ⟨rfl, hb2⟩)
  have hk : IsBlk (w2.alloc (.cells #[.int .i64 s1, .int .i64 s2] 74)) w2.heap.size 74 #[.int .i64 s1, .int .i64 s2] := IsBlk.laid _ _ _
  have hb3 : Below w1.heap.size w1 (w2.alloc (.cells #[.int .i64 s1, .int .i64 s2] 74)) := hb2.alloc hb2.size _
  generalize w2.alloc (.cells #[.int .i64 s1, .int .i64 s2] 74) = w3 at *
  have Hs3 := Lib.hid (small_any _ s1 s2 w3 hk)
  have hbb := Hb1.out.trans (hb3.mono Hb1.out.size)
  have Hb3 := Lib.hid (And.intro (Hb.out _ hbb) hbb)
  clear x0 x1 x2 x3 x4 x5 xl
  obtain ⟨x0, x1, x2, x3, x4, x5, xl⟩ := box6 (Hx.out _ hb3)
  have hkl := hk.lt
  clear hk hb2 hb3 hbb
  generalize smallZ (s1, s2) = qs at *
  cases qs
  · go_wp2_with (go_at_call 27; refine Hs3.out.mono ?_; rintro x w' ⟨rfl, rfl⟩)
    go_ret
    exact ⟨ret_b (by rw [Hfin.out]; simp), Hb3.out.2⟩
  · go_wp2_with (first | (go_at_call 27; refine Hs3.out.mono ?_; rintro x w' ⟨rfl, rfl⟩) | (go_at_call 28; refine Hb3.out.1.mono ?_; rintro x w4 ⟨rfl, hb4⟩))
    go_ret
    exact ⟨ret_b (by rw [Hfin.out]; simp), Hb3.out.2.trans (hb4.mono Hb3.out.2.size)⟩

theorem len_any (g : Nat) (t : List UInt8) (br : Bool) (w : World) (h : WtAt g t br w) : Calls Tryd.prog 24 #[.pointer (some ⟨g, 0, none⟩)] w fun e w' => e = .returned (.int .i64 t.length) ∧ w = w' := by
  obtain ⟨p, A, c, hk, _⟩ : ∃ p A c, IsBlk w g 70 #[.pointer p, .slice A t.length c, .bool br] ∧ True := by
    rcases h with ⟨A, c, hk, _⟩ | ⟨A, c, hk, _⟩ <;> exact ⟨_, _, _, hk, trivial⟩
  obtain ⟨c0, c1, c2, hlt, _⟩ := wtBox hk
  clear h hk
  go_enter Tryd.func24, Tryd.ntmps24
  go_wp2
  go_ret
  exact ⟨rfl, rfl⟩
set_option maxHeartbeats 1000000 in
set_option maxRecDepth 100000 in
theorem string_any (g : Nat) (t : List UInt8) (br : Bool) (w : World) (h : WtAt g t br w) (h0 : t ≠ []) : Calls Tryd.prog 25 #[.pointer (some ⟨g, 0, none⟩)] w fun e w' => e = .returned (.string ⟨t.toArray⟩) ∧ Below g w w' := by
  obtain ⟨p, A, c, hk, ho⟩ : ∃ p A c, IsBlk w g 70 #[.pointer p, .slice A t.length c, .bool br] ∧ w.ownsRow (g + 1) 5 1 (.slice A t.length c) t.length (Lib.byteCells t) := by
    rcases h with ⟨A, c, hk, ho⟩ | ⟨A, c, hk, ho⟩ <;> exact ⟨_, _, _, hk, ho⟩
  have hl0 : t.length ≠ 0 := by simpa using h0
  obtain ⟨k, cap, cur, hA, hbk, hkk, hnc, hcm, hcs, htake⟩ : ∃ k cap cur, (Value.slice A t.length c) = .slice (some ⟨k, 0, none⟩) t.length cap ∧ g + 1 ≤ k ∧ w.heap[k]? = some (.cells cur 5 (0, 0)) ∧ t.length ≤ cap ∧ cap ≤ maxLen ∧ cur.size = cap * 1 ∧ cur.toList.take (t.length * 1) = Lib.byteCells t := by
    rcases ho.2 with ⟨_, hz⟩ | ⟨k, cap, cur, hv, r⟩
    · exact absurd hz hl0
    · exact ⟨k, cap, cur, hv, r⟩
  injection hA with e1 e2 e3
  subst e1 e3
  have hkd : IsBlk w.drew g 70 #[.pointer p, .slice (some ⟨k, 0, none⟩) t.length c, .bool br] := hk
  obtain ⟨c0, c1, c2, hlt, _⟩ := wtBox hkd
  have hSD : ∀ ts ty, (Builtin.unsafeSliceData_ ts ty #[.slice (some ⟨k, 0, none⟩) t.length c]).run Tryd.prog w.drew = .ok (.pointer (some ⟨k, 0, none⟩)) w.drew := fun ts ty => Lib.run_unsafeSliceData_row _ _ _ _ _ _ (by omega)
  have hUS : (Builtin.unsafeString_ #[85, 3] 9 #[.pointer (some ⟨k, 0, none⟩), .int .i64 t.length]).run Tryd.prog w.drew = .ok (.string ⟨t.toArray⟩) (w.drew.freeze ⟨k, 0, none⟩ t.length) := by
    refine Lib.run_unsafeString_row w.drew 85 3 9 5 Tryd.underlying85 (by kernel_rfl) k cur.size (by have hg' : w.drew.heap[k]? = some (.cells cur 5 (0, 0)) := hkk; simp [World.shape?, hg']) t h0 (by omega) (by unfold maxLen at hcm; omega) ?_
    intro j x hx
    have := ho.cells (g := k) rfl j (.int .u8 x.toNat) (by simp [Lib.byteCells, hx])
    exact this
  clear h hk hkd ho htake hkk
  go_enter Tryd.func25, Tryd.ntmps25
  go_wp2
  go_region
  all_goals (go_wp2; go_ret; exact ⟨rfl, Lib.below_freeze (Below.drew (Below.refl g w)) (p := ⟨k, 0, none⟩) (show g ≤ k by omega) _⟩)

theorem digs_ne {n : Nat} (h : 0 < n) : digs n ≠ [] := by rw [digs_pos h]; simp
theorem free_ne {s : ByteArray} (h : freeB s = true) : s.data.toList ≠ [] := by
  intro e
  unfold freeB namedB at h
  rw [e] at h
  simp at h
theorem txt_ne {d : Nat} {e : Ex} (h : builtE d e = true) : txtE d e ≠ [] := by
  obtain ⟨o1, o2⟩ := built_op h
  cases d with
  | zero => cases h
  | succ d =>
    obtain ⟨op, n, s, name, src, args⟩ := e
    have o1 : 1 ≤ op := o1
    have o2 : op ≤ 24 := o2
    obtain ⟨ha, hf, _⟩ := fields_op h
    rw [txt_op]
    by_cases h5 : op ≤ 5
    · have h5 : op = 1 ∨ op = 2 ∨ op = 3 ∨ op = 4 ∨ op = 5 := by omega
      rcases h5 with rfl | rfl | rfl | rfl | rfl
      · have e : fieldsR 1 n s name src = (decide (0 ≤ n) && noS s && noS name && noS src) := rfl
        rw [e] at hf
        simp only [Bool.and_eq_true, decide_eq_true_eq] at hf
        rw [if_pos rfl]
        unfold decS
        split
        · simp
        · exact digs_ne (by have := hf.1.1.1; omega)
      · simp [quoteS]
      · simp only [trueL, falseL]
        split <;> simp_all
        split <;> simp
      · have e : fieldsR 4 n s name src = (freeB name && decide (n = 0) && noS s && noS src) := rfl
        rw [e] at hf
        simp only [Bool.and_eq_true] at hf
        simpa using free_ne hf.1.1.1
      · simp
    · rw [if_neg (by omega), if_neg (by omega), if_neg (by omega), if_neg (by omega), if_neg (by omega)]
      rcases args with _ | ⟨a, r⟩
      · exfalso
        rcases len_args ha (by omega) o2 with ⟨h1, _⟩ | ⟨h1, _⟩ <;> simp at h1
      · simp only
        split
        · have : sgnL op ≠ [] := by
            rename_i h
            rcases h with rfl | rfl <;> decide
          simp [this]
        · split <;> simp
end Go.Proofs.YthiimingnmbgmaaDoor
