/- Parts of this proof, one behind the other: PrtM, PrtN, PrtO, PrtU, PrtA1, PrsP. -/
import Derived.Test.YtjpiedpmnnepgaaGreatDoorPz10
import Derived.Test.YtjpiedpmnnepgaaGreatDoorPz4
import Derived.Test.YtjpiedpmnnepgaaGreatDoorPz2
import Derived.Test.YtjpiedpmnnepgaaGreatDoorPz7
set_option maxRecDepth 1000000
set_option maxHeartbeats 40000000
namespace Go.Proofs.YtjpiedpmnnepgaaGreatDoor
open Go.RowKit Go.Afx
def rightE (d : Nat) (e : Ex) : Bool := smallZ (sizeE d 0 e) && builtE d e
theorem ret_b {a b : Bool} (h : a = b) : Ending.returned (.bool a) = .returned (.bool b) := by rw [h]
theorem rightE_any (F : Nat → Prop) (d : Nat) (e : Ex) (row : List Value) (w : World) (h : ExAt F d w row e) (hd : d ≤ 10000) :
  Calls Tryz.prog 20 #[.agg row.toArray] w fun x w' => x = .returned (.bool (rightE d e)) ∧ Below w.heap.size w w' := by
 have hq : rightE d e = (smallZ (sizeE d 0 e) && builtE d e) := rfl
 obtain ⟨A, m, c, hrow⟩ := ex_row h
 obtain ⟨w1, Hw1⟩ : ∃ w1, Hid (w1 = w.alloc (.cells row.toArray 32)) := ⟨_, rfl⟩
 have hb1 : Below w.heap.size w w1 := by rw [Hw1.out]; exact (Below.refl _ _).alloc (Nat.le_refl _) _
 have hk1 : IsBlk w1 w.heap.size 32 row.toArray := by rw [Hw1.out]; exact IsBlk.laid _ _ _
 have Hx := Lhd (fun W (hW : Below w1.heap.size w1 W) => (show IsBlk W w.heap.size 32 row.toArray from hk1.as_was (hW.block _ hk1.lt)))
 have Hs := Lhd (sizeE_any F d e row 0 w1 (h.below hb1) (by omega) (by omega))
 have Hb := Lhd (fun W (hW : Below w.heap.size w W) => builtE_any F d e row W (h.below hW))
 have Hb1 := Lhd hb1
 subst hrow
 generalize sizeE d 0 e = s at *
 generalize builtE d e = qb at *
 generalize rightE d e = fin at *
 have Hfin := Lhd hq
 obtain ⟨s1, s2⟩ := s
 clear hq h hb1 hk1
 go_enter Tryz.func20, Tryz.ntmps20
 go_upto_region 1 with (fail)
 rw [← Hw1.out]
 obtain ⟨x0, x1, x2, x3, x4, x5, xl⟩ := box6 (Hx.out _ (Below.refl _ _))
 go_upto_region 2 with (go_at_call 43; refine Hs.out.mono ?_; rintro x w2 ⟨rfl, hb2⟩)
 have hk : IsBlk (w2.alloc (.cells #[.int .i64 s1, .int .i64 s2] 104)) w2.heap.size 104 #[.int .i64 s1, .int .i64 s2] := IsBlk.laid _ _ _
 have hb3 : Below w1.heap.size w1 (w2.alloc (.cells #[.int .i64 s1, .int .i64 s2] 104)) := hb2.alloc hb2.size _
 generalize w2.alloc (.cells #[.int .i64 s1, .int .i64 s2] 104) = w3 at *
 have Hs3 := Lhd (small_any _ s1 s2 w3 hk)
 have hbb := Hb1.out.trans (hb3.mono Hb1.out.size)
 have Hb3 := Lhd (And.intro (Hb.out _ hbb) hbb)
 clear x0 x1 x2 x3 x4 x5 xl
 obtain ⟨x0, x1, x2, x3, x4, x5, xl⟩ := box6 (Hx.out _ hb3)
 have hkl := hk.lt
 clear hk hb2 hb3 hbb
 generalize smallZ (s1, s2) = qs at *
 cases qs
 ·go_wp2_with (go_at_call 44; refine Hs3.out.mono ?_; rintro x w' ⟨rfl, rfl⟩)
  go_ret
  exact ⟨ret_b (by rw [Hfin.out]; simp), Hb3.out.2⟩
 ·go_wp2_with (first | (go_at_call 44; refine Hs3.out.mono ?_; rintro x w' ⟨rfl, rfl⟩) | (go_at_call 45; refine Hb3.out.1.mono ?_; rintro x w4 ⟨rfl, hb4⟩))
  go_ret
  exact ⟨ret_b (by rw [Hfin.out]; simp), Hb3.out.2.trans (hb4.mono Hb3.out.2.size)⟩
theorem len_any (g : Nat) (t : List UInt8) (br : Bool) (w : World) (h : WtAt g t br w) : Calls Tryz.prog 41 #[.pointer (some ⟨g, 0, none⟩)] w fun e w' => e = .returned (.int .i64 t.length) ∧ w = w' := by
 obtain ⟨p, A, c, hk, _⟩ : ∃ p A c, IsBlk w g 100 #[.pointer p, .slice A t.length c, .bool br] ∧ True := by
  rcases h with ⟨A, c, hk, _⟩ | ⟨A, c, hk, _⟩ <;> exact ⟨_, _, _, hk, trivial⟩
 obtain ⟨c0, c1, c2, hlt, _⟩ := wtBox hk
 clear h hk
 go_enter Tryz.func41, Tryz.ntmps41
 go_wp2
 go_ret
 exact ⟨rfl, rfl⟩
theorem string_any (g : Nat) (t : List UInt8) (br : Bool) (w : World) (h : WtAt g t br w) (h0 : t ≠ []) : Calls Tryz.prog 42 #[.pointer (some ⟨g, 0, none⟩)] w fun e w' => e = .returned (.string ⟨t.toArray⟩) ∧ Below g w w' := by
 obtain ⟨p, A, c, hk, ho⟩ : ∃ p A c, IsBlk w g 100 #[.pointer p, .slice A t.length c, .bool br] ∧ w.ownsRow (g + 1) 5 1 (.slice A t.length c) t.length (Lib.byteCells t) := by
  rcases h with ⟨A, c, hk, ho⟩ | ⟨A, c, hk, ho⟩ <;> exact ⟨_, _, _, hk, ho⟩
 have hl0 : t.length ≠ 0 := by simpa using h0
 obtain ⟨k, cap, cur, hA, hbk, hkk, hnc, hcm, hcs, htake⟩ : ∃ k cap cur, (Value.slice A t.length c) = .slice (some ⟨k, 0, none⟩) t.length cap ∧ g + 1 ≤ k ∧ w.heap[k]? = some (.cells cur 5 (0, 0)) ∧ t.length ≤ cap ∧ cap ≤ maxLen ∧ cur.size = cap * 1 ∧ cur.toList.take (t.length * 1) = Lib.byteCells t := by
  rcases ho.2 with ⟨_, hz⟩ | ⟨k, cap, cur, hv, r⟩
  ·exact absurd hz hl0
  ·exact ⟨k, cap, cur, hv, r⟩
 injection hA with e1 e2 e3
 subst e1 e3
 have hkd : IsBlk w.drew g 100 #[.pointer p, .slice (some ⟨k, 0, none⟩) t.length c, .bool br] := hk
 obtain ⟨c0, c1, c2, hlt, _⟩ := wtBox hkd
 have hSD : ∀ ts ty, (Builtin.unsafeSliceData_ ts ty #[.slice (some ⟨k, 0, none⟩) t.length c]).run Tryz.prog w.drew = .ok (.pointer (some ⟨k, 0, none⟩)) w.drew := fun ts ty => Lib.run_unsafeSliceData_row _ _ _ _ _ _ (by omega)
 have hUS : (Builtin.unsafeString_ #[145, 3] 9 #[.pointer (some ⟨k, 0, none⟩), .int .i64 t.length]).run Tryz.prog w.drew = .ok (.string ⟨t.toArray⟩) (w.drew.freeze ⟨k, 0, none⟩ t.length) := by
  refine Lib.run_unsafeString_row w.drew 145 3 9 5 Tryz.underlying145 (by kernel_rfl) k cur.size (by have hg' : w.drew.heap[k]? = some (.cells cur 5 (0, 0)) := hkk; simp [World.shape?, hg']) t h0 (by omega) (by unfold maxLen at hcm; omega) ?_
  intro j x hx
  have := ho.cells (g := k) rfl j (.int .u8 x.toNat) (by simp [Lib.byteCells, hx])
  exact this
 clear h hk hkd ho htake hkk
 go_enter Tryz.func42, Tryz.ntmps42
 go_wp2
 go_region
 all_goals (go_wp2; go_ret; exact ⟨rfl, Lib.below_freeze (Below.drew (Below.refl g w)) (p := ⟨k, 0, none⟩) (show g ≤ k by omega) _⟩)
theorem digs_ne {n : Nat} (h : 0 < n) : digs n ≠ [] := by rw [digs_pos h]; simp
theorem free_ne {s : ByteArray} (h : freeB s = true) : s.data.toList ≠ [] := by
 intro e
 unfold freeB namedB at h
 rw [e] at h
 simp at h
theorem txt_ne {d : Nat} {e : Ex} (h : builtE d e = true) : txtE d e ≠ [] := by
 obtain ⟨o1, o2⟩ := built_op h
 cases d with
 | zero => cases h
 | succ d =>
  obtain ⟨op, n, s, name, src, args⟩ := e
  have o1 : 1 ≤ op := o1
  have o2 : op ≤ 24 := o2
  obtain ⟨ha, hf, _⟩ := fields_op h
  rw [txt_op]
  by_cases h5 : op ≤ 5
  ·have h5 : op = 1 ∨ op = 2 ∨ op = 3 ∨ op = 4 ∨ op = 5 := by omega
   rcases h5 with rfl | rfl | rfl | rfl | rfl
   ·have e : fieldsR 1 n s name src = (decide (0 ≤ n) && noS s && noS name && noS src) := rfl
    rw [e] at hf
    simp only [Bool.and_eq_true, decide_eq_true_eq] at hf
    rw [if_pos rfl]
    unfold decS
    split
    ·simp
    ·exact digs_ne (by have := hf.1.1.1; omega)
   ·simp [quoteS]
   ·simp only [trueL, falseL]
    split <;> simp_all
    split <;> simp
   ·have e : fieldsR 4 n s name src = (freeB name && decide (n = 0) && noS s && noS src) := rfl
    rw [e] at hf
    simp only [Bool.and_eq_true] at hf
    simpa using free_ne hf.1.1.1
   ·simp
  ·rw [if_neg (by omega), if_neg (by omega), if_neg (by omega), if_neg (by omega), if_neg (by omega)]
   rcases args with _ | ⟨a, r⟩
   ·exfalso
    rcases len_args ha (by omega) o2 with ⟨h1, _⟩ | ⟨h1, _⟩ <;> simp at h1
   ·simp only
    split
    ·have : sgnL op ≠ [] := by
      rename_i h
      rcases h with rfl | rfl <;> decide
     simp [this]
    ·split <;> simp
theorem kept_any (F : Nat → Prop) (d : Nat) (e : Ex) (row : List Value) (x g : Nat) (t : List UInt8) (br : Bool) (w : World) (hx : ExAt F d w row e) (hb : builtE d e = true) (hF : ∀ k, F k → k < g) (hk : IsBlk w x 32 row.toArray) (h : WtAt g t br w) (hm : HasMax w) (hg : 0 < g) (hlen : t.length + (txtE d e).length ≤ 1000000000) :
  Calls Tryz.prog 21 #[.pointer (some ⟨g, 0, none⟩), .pointer (some ⟨x, 0, none⟩)] w fun e' w' => e' = .returned (.tuple #[]) ∧ WtAt g (t ++ txtE d e) (br || nlE d e) w' ∧ Wrote g w w' := by
 obtain ⟨A, m, c, hrow⟩ := ex_row hx
 have Hc := Lhd (expr_any d F e row g t br w hx hb hF h hm hg hlen)
 subst hrow
 obtain ⟨x0, x1, x2, x3, x4, x5, xl⟩ := box6 hk
 clear hx hb hF hk h hm hg hlen
 go_enter Tryz.func21, Tryz.ntmps21
 go_wp2_with (go_at_call 22; refine Hc.out.mono ?_)
 rintro e' w2 ⟨rfl, h1, h2⟩
 have H := Lhd (And.intro h1 h2)
 clear h1 h2
 go_wp2
 go_end0
 exact ⟨rfl, H.out.1, H.out.2⟩
theorem printed_no (f : Value) (w : World) : Calls Tryz.prog 19 #[.bool false, f] w fun e w' => e = .returned (.tuple #[.string ⟨#[]⟩, .int .i64 1]) ∧ w = w' := by
 go_enter Tryz.func19, Tryz.ntmps19
 go_wp2
 go_ret2
 exact ⟨rfl, rfl⟩
def printS (br : Bool) (t : List UInt8) : List UInt8 × Int := if br then ([], 1) else if 8000 < t.length then ([], 5) else (t, 0)
theorem wt_new (w : World) : WtAt w.heap.size [] false (w.alloc (.cells #[.pointer none, .slice none 0 0, .bool false] 100)) := .inl ⟨none, 0, IsBlk.laid _ _ _, World.ownsRow_nil _ _ _ _⟩
theorem printed_yes (x : Nat) (t : List UInt8) (br : Bool) (w : World) (ht : t ≠ [])
  (hc : ∀ W, Below w.heap.size w W → WtAt w.heap.size [] false W → Calls Tryz.prog 21 #[.pointer (some ⟨w.heap.size, 0, none⟩), .pointer (some ⟨x, 0, none⟩)] W fun e' w' => e' = .returned (.tuple #[]) ∧ WtAt w.heap.size t br w' ∧ Wrote w.heap.size W w') :
  Calls Tryz.prog 19 #[.bool true, .func (.func 21) #[] #[.pointer (some ⟨x, 0, none⟩)]] w fun e w' => e = .returned (.tuple #[.string ⟨(printS br t).1.toArray⟩, .int .i64 (printS br t).2]) ∧ Below w.heap.size w w' := by
 have hb1 : Below w.heap.size w (w.alloc (.cells #[.pointer none, .slice none 0 0, .bool false] 100)) := (Below.refl _ _).alloc (Nat.le_refl _) _
 have Hc := Lhd (hc _ hb1 (wt_new w))
 have Hb1 := Lhd hb1
 have Ht := Lhd ht
 clear hc hb1 ht
 go_enter Tryz.func19, Tryz.ntmps19
 go_wp2_with (go_at_call 21; refine Hc.out.mono ?_)
 rintro e' w2 ⟨rfl, h2, hr2⟩
 obtain ⟨b1, _, b3⟩ := h2.brk
 have Hr2 := Lhd (And.intro h2 (Hb1.out.trans hr2.1))
 have Hln := Lhd (len_any _ _ _ _ h2)
 have Hst := Lhd (string_any _ _ _ _ h2 Ht.out)
 clear h2 hr2
 cases br
 ·rcases Classical.em (8000 < t.length) with hl | hl
  ·have hd : decide ((8000 : Int) < (t.length : Int)) = true := by simp; omega
   have e : printS false t = ([], 5) := by unfold printS; rw [if_neg (by decide), if_pos hl]
   have He := Lhd e
   clear hl e
   go_wp2_with (go_at_call 41; refine Hln.out.mono ?_; rintro e' w3 ⟨rfl, rfl⟩)
   go_ret2
   rw [He.out]
   exact ⟨rfl, Hr2.out.2⟩
  ·have hd : decide ((8000 : Int) < (t.length : Int)) = false := by simp; omega
   have e : printS false t = (t, 0) := by unfold printS; rw [if_neg (by decide), if_neg hl]
   have He := Lhd e
   clear hl e
   go_wp2_with (first | (go_at_call 41; refine Hln.out.mono ?_; rintro e' w3 ⟨rfl, rfl⟩) | (go_at_call 42; refine Hst.out.mono ?_; rintro e' w4 ⟨rfl, hb4⟩))
   go_ret2
   rw [He.out]
   exact ⟨rfl, Hr2.out.2.trans hb4⟩
 ·have e : printS true t = ([], 1) := by unfold printS; rw [if_pos rfl]
  have He := Lhd e
  clear e
  go_wp2
  go_ret2
  rw [He.out]
  exact ⟨rfl, Hr2.out.2⟩
def exprS (d : Nat) (e : Ex) : List UInt8 × Int := if rightE d e then printS (nlE d e) (txtE d e) else ([], 1)
theorem printExpr_any (F : Nat → Prop) (d : Nat) (e : Ex) (row : List Value) (w : World) (h : ExAt F d w row e) (hd : d ≤ 10000) (hF : ∀ k, F k → k < w.heap.size) (hm : HasMax w) (hlen : rightE d e = true → (txtE d e).length ≤ 1000000000) :
  Calls Tryz.prog 9 #[.agg row.toArray] w fun x w' => x = .returned (.tuple #[.string ⟨(exprS d e).1.toArray⟩, .int .i64 (exprS d e).2]) ∧ Below w.heap.size w w' := by
 obtain ⟨A, m, c, hrow⟩ := ex_row h
 obtain ⟨w1, Hw1⟩ : ∃ w1, Hid (w1 = w.alloc (.cells row.toArray 32)) := ⟨_, rfl⟩
 have hb1 : Below w.heap.size w w1 := by rw [Hw1.out]; exact (Below.refl _ _).alloc (Nat.le_refl _) _
 have hk1 : IsBlk w1 w.heap.size 32 row.toArray := by rw [Hw1.out]; exact IsBlk.laid _ _ _
 have Hri := Lhd (rightE_any F d e row w1 (h.below hb1) hd)
 have Hyes := Lhd (fun W (hW : Below w1.heap.size w1 W) (hr : rightE d e = true) => printed_yes w.heap.size (txtE d e) (nlE d e) W (txt_ne (by unfold rightE at hr; simp only [Bool.and_eq_true] at hr; exact hr.2)) (fun W2 h2 hwt => by
  have hbe : builtE d e = true := by unfold rightE at hr; simp only [Bool.and_eq_true] at hr; exact hr.2
  have hall : Below w.heap.size w W2 := hb1.trans ((hW.mono hb1.size).trans (h2.mono (Nat.le_trans hb1.size hW.size)))
  have hk := (hk1.as_was (hW.block _ hk1.lt)).as_was (h2.block _ (Nat.lt_of_lt_of_le hk1.lt hW.size))
  have hmg := Nat.lt_of_lt_of_le hm.lt (Nat.le_trans hb1.size hW.size)
  have hres := kept_any F d e row w.heap.size W.heap.size [] false W2 (h.below hall) hbe (fun k hk => Nat.lt_of_lt_of_le (hF k hk) (Nat.le_trans hb1.size hW.size)) hk hwt (hm.below hm.lt hall) hmg (by simpa using hlen hr)
  rw [List.nil_append, Bool.false_or] at hres
  exact hres))
 have Hb1 := Lhd hb1
 have Hex := Lhd (show exprS d e = if rightE d e then printS (nlE d e) (txtE d e) else ([], 1) from rfl)
 generalize exprS d e = fin at *
 obtain ⟨x0, x1, x2, x3, x4, x5, xl⟩ := box6 (show IsBlk w1 w.heap.size 32 #[.int .i64 e.op, .int .i64 e.n, .string e.s, .string e.name, .string e.src, .slice A m c] from by rw [hrow] at hk1; exact hk1)
 subst hrow
 have hmf : ∀ (fn : Fn) (first cap : Array Value) (w : World), (Instr.makeFunc fn first cap).run Tryz.prog w = .ok (.func fn first cap) w := fun _ _ _ _ => rfl
 clear h hb1 hk1 hF hm hlen hd
 generalize rightE d e = ri at *
 cases ri
 ·clear Hyes
  go_enter Tryz.func9, Tryz.ntmps9
  go_upto_region 1 with (fail)
  rw [← Hw1.out]
  go_wp2_with (first | (go_at_call 20; refine Hri.out.mono ?_; rintro x w2 ⟨rfl, hb2⟩) | (go_at_call 19; refine (printed_no _ _).mono ?_; rintro x w3 ⟨rfl, rfl⟩))
  go_ret2
  rw [Hex.out]
  exact ⟨rfl, Hb1.out.trans (hb2.mono Hb1.out.size)⟩
 ·have Hy := Lhd (fun W hW => Hyes.out W hW rfl)
  clear Hyes
  go_enter Tryz.func9, Tryz.ntmps9
  go_upto_region 1 with (fail)
  rw [← Hw1.out]
  go_wp2_with (first | (go_at_call 20; refine Hri.out.mono ?_; rintro x w2 ⟨rfl, hb2⟩) | (go_at_call 19; refine (Hy.out _ hb2).mono ?_; rintro x w3 ⟨rfl, hb3⟩))
  go_ret2
  rw [Hex.out]
  exact ⟨rfl, Hb1.out.trans ((hb2.mono Hb1.out.size).trans (hb3.mono (Nat.le_trans Hb1.out.size hb2.size)))⟩
theorem txt_len {F : Nat → Prop} {w : World} : ∀ (d : Nat) (e : Ex) (row : List Value), ExAt F d w row e → builtE d e = true → (txtE d e).length ≤ 500 * cntE d e := by
 intro d
 induction d with
 | zero => intro e row hx h; cases h
 | succ d ih =>
  intro e row hx h
  obtain ⟨o1, o2⟩ := built_op h
  obtain ⟨op, n, s, name, src, args⟩ := e
  have o1 : 1 ≤ op := o1
  have o2 : op ≤ 24 := o2
  obtain ⟨ha, hf, hall⟩ := fields_op h
  have hc : cntE (d + 1) (.mk op n s name src args) = 1 + (args.map (cntE d)).sum := rfl
  have hsg := sgnL_len o1 o2
  rw [txt_op, hc]
  by_cases h5 : op ≤ 5
  ·suffices hs : (if op = 1 then decS n else if op = 2 then quoteS s else if op = 3 then (if n = 1 then trueL else falseL) else if op = 4 then name.data.toList else if op = 5 then name.data.toList ++ [46] ++ s.data.toList else []).length ≤ 500 by
    have h5 : op = 1 ∨ op = 2 ∨ op = 3 ∨ op = 4 ∨ op = 5 := by omega
    rcases h5 with rfl | rfl | rfl | rfl | rfl <;> exact Nat.le_trans hs (by omega)
   have h5 : op = 1 ∨ op = 2 ∨ op = 3 ∨ op = 4 ∨ op = 5 := by omega
   rcases h5 with rfl | rfl | rfl | rfl | rfl
   ·show (decS n).length ≤ 500
    unfold decS
    have h1 := decS_len (show okI n from hx.open_.2.1)
    unfold decS at h1
    omega
   ·have e : fieldsR 2 n s name src = (decide (s.size ≤ 200) && decide (n = 0) && noS name && noS src) := rfl
    rw [e] at hf
    simp only [Bool.and_eq_true, decide_eq_true_eq] at hf
    show (quoteS s).length ≤ 500
    unfold quoteS
    have h1 := dbl_len s.data.toList
    have h2 : s.data.toList.length = s.size := rfl
    have h3 := hf.1.1.1
    simp only [List.length_append, List.length_cons, List.length_nil]
    omega
   ·show (if n = 1 then trueL else falseL).length ≤ 500
    split <;> decide
   ·have e : fieldsR 4 n s name src = (freeB name && decide (n = 0) && noS s && noS src) := rfl
    rw [e] at hf
    simp only [Bool.and_eq_true] at hf
    have := named_len hf.1.1.1
    show name.data.toList.length ≤ 500
    omega
   ·have e : fieldsR 5 n s name src = (freeB name && freeB s && decide (n = 0) && noS src) := rfl
    rw [e] at hf
    simp only [Bool.and_eq_true] at hf
    have h1 := named_len hf.1.1.1
    have h2 := named_len hf.1.1.2
    show (name.data.toList ++ [46] ++ s.data.toList).length ≤ 500
    simp only [List.length_append, List.length_cons, List.length_nil]
    omega
  ·rw [if_neg (by omega), if_neg (by omega), if_neg (by omega), if_neg (by omega), if_neg (by omega)]
   obtain ⟨A, c, rfl, _, _, hat⟩ := args_at hx
   rcases args with _ | ⟨a, r⟩
   ·simp
   ·obtain ⟨b, o, _, _, _, hget⟩ := hat (by simp)
    obtain ⟨A1, m1, c1, _, hx1⟩ := hget 0 a rfl
    have h1 := ih a _ hx1 (hall a (by simp))
    rcases r with _ | ⟨a2, r⟩
    ·simp only [List.map_cons, List.map_nil, List.sum_cons, List.sum_nil]
     split
     ·have := opnd_len (lvlZ op) a.op (txtE d a)
      rw [List.length_append]
      omega
     ·split
      ·rename_i h21
       have hr : fieldsR op n s name src = (freeB name && freeB src && decide (n = 0) && noS s) := by
        unfold fieldsR
        rw [if_neg (by omega), if_neg (by omega), if_neg (by omega), if_neg (by omega), if_neg (by omega), if_pos]
        simp [rowsB]; omega
       rw [hr] at hf
       simp only [Bool.and_eq_true] at hf
       have n1 := named_len hf.1.1.1
       have n2 := named_len hf.1.1.2
       have hw := whereT_len a.op a.n (txtE d a)
       unfold rowsT
       split <;> simp only [List.length_append, List.length_cons, List.length_nil] <;> omega
      ·have h3 := opnd_len (lvlZ op + if lvlZ op = 4 then 1 else 0) a.op (txtE d a)
       simp only [List.length_append, List.length_cons, List.length_nil]
       omega
    ·obtain ⟨A2, m2, c2, _, hx2⟩ := hget 1 a2 rfl
     have h2 := ih a2 _ hx2 (hall a2 (by simp))
     simp only [List.map_cons, List.sum_cons]
     split
     ·have := opnd_len (lvlZ op) a.op (txtE d a)
      rw [List.length_append]
      omega
     ·split
      ·rename_i h21
       have hr : fieldsR op n s name src = (freeB name && freeB src && decide (n = 0) && noS s) := by
        unfold fieldsR
        rw [if_neg (by omega), if_neg (by omega), if_neg (by omega), if_neg (by omega), if_neg (by omega), if_pos]
        simp [rowsB]; omega
       rw [hr] at hf
       simp only [Bool.and_eq_true] at hf
       have n1 := named_len hf.1.1.1
       have n2 := named_len hf.1.1.2
       have hw := whereT_len a.op a.n (txtE d a)
       unfold rowsT
       split <;> simp only [List.length_append, List.length_cons, List.length_nil] <;> omega
      ·have h3 := opnd_len (lvlZ op + if lvlZ op = 4 then 1 else 0) a.op (txtE d a)
       have h4 := opnd_len (lvlZ op + 1) a2.op (txtE d a2)
       simp only [List.length_append, List.length_cons, List.length_nil]
       omega
theorem Six.below {w w' : World} {b o : Nat} {e : Ex} {A : Option Addr} {m c : Nat} (h : Six w b o e A m c) (hb : b < w.heap.size) (hw : Below w.heap.size w w') : Six w' b o e A m c := by
 obtain ⟨h0, h1, h2, h3, h4, h5⟩ := h
 exact ⟨(hw.cell (p := ⟨b, o, none⟩) hb).trans h0, (hw.cell (p := ⟨b, o + 1, none⟩) hb).trans h1, (hw.cell (p := ⟨b, o + 2, none⟩) hb).trans h2, (hw.cell (p := ⟨b, o + 3, none⟩) hb).trans h3, (hw.cell (p := ⟨b, o + 4, none⟩) hb).trans h4, (hw.cell (p := ⟨b, o + 5, none⟩) hb).trans h5⟩
abbrev sNil : ByteArray := ⟨#[]⟩
abbrev vars (nm : ByteArray) : Ex := .mk 4 0 sNil nm sNil []
abbrev opx (op : Int) (l : List Ex) : Ex := .mk op 0 sNil sNil sNil l
abbrev varRow (nm : ByteArray) : List Value := [.int .i64 4, .int .i64 0, .string sNil, .string nm, .string sNil, .slice none 0 0]
abbrev opRow (op : Int) (A : Option Addr) (n : Nat) : List Value := [.int .i64 op, .int .i64 0, .string sNil, .string sNil, .string sNil, .slice A n n]
abbrev ex1 : Ex := opx 19 [opx 11 [vars ⟨#[120]⟩, vars ⟨#[121]⟩]]
abbrev ex2 : Ex := opx 11 [opx 19 [vars ⟨#[120]⟩], vars ⟨#[121]⟩]
theorem ex1_said : exprS 3 ex1 = ([110, 111, 116, 32, 120, 32, 61, 32, 121], 0) := by decide +kernel
theorem ex2_said : exprS 3 ex2 = ([40, 110, 111, 116, 32, 120, 41, 32, 61, 32, 121], 0) := by decide +kernel
theorem ex1_len : (txtE 3 ex1).length ≤ 1000000000 := by decide +kernel
theorem ex2_len : (txtE 3 ex2).length ≤ 1000000000 := by decide +kernel
theorem exs_of {F : Nat → Prop} {d n c : Nat} {W : World} {A : Option Addr} {rows : List (List Value)} {es : List Ex} (hr : RowsAt W 6 A n c rows) (hF : ∀ a, A = some a → 0 < n → F a.block) (hl : rows.length = es.length) (h : ∀ (k : Nat) (r : List Value) (x : Ex), rows[k]? = some r → es[k]? = some x → ExAt F d W r x) : ExsAt F d W A n c es :=
 ⟨rows, hr, hF, hl, fun k r x h1 h2 => ⟨(h k r x h1 h2).len, h k r x h1 h2⟩⟩
theorem okS_nil : okS sNil := by unfold okS; decide +kernel
theorem ex_var {F : Nat → Prop} {d : Nat} {W : World} {nm : ByteArray} (h : okS nm) : ExAt F (d + 1) W (varRow nm) (vars nm) :=
 ⟨(by unfold okI; decide : okI 4), (by unfold okI; decide : okI 0), okS_nil, h, okS_nil, none, 0, 0, rfl, LsAt.nil_ _ _ _ _⟩
theorem ex_opx {F : Nat → Prop} {d : Nat} {W : World} {op : Int} {A : Option Addr} {n : Nat} {es : List Ex} (h0 : 0 ≤ op) (h1 : op ≤ 100) (h : ExsAt F d W A n n es) : ExAt F (d + 1) W (opRow op A n) (opx op es) :=
  ⟨by unfold okI; have : (opx op es).op = op := rfl
      omega, (by unfold okI; decide : okI 0), okS_nil, okS_nil, okS_nil, A, n, n, rfl, h⟩
theorem exs_one {F : Nat → Prop} {d : Nat} {w : World} {g : Nat} (T : TypeId) {r : List Value} {e : Ex} (hg : g = w.heap.size) (hF : F g) (h : ExAt F d (w.alloc (.cells r.toArray T)) r e) : ExsAt F d (w.alloc (.cells r.toArray T)) (some ⟨g, 0, none⟩) 1 1 [e] := by
 have h6 := h.len
 refine exs_of (rows := [r]) (RowsAt.lit' _ _ 1 hg (by simp) (by simpa using h6) (by simp) (by unfold maxLen; omega)) (fun a ha _ => by cases ha; exact hF) rfl (fun k r x h1 h2 => ?_)
 cases k with
 | zero => simp at h1 h2; subst h1 h2; exact h
 | succ k => simp at h1
theorem exs_two {F : Nat → Prop} {d : Nat} {w : World} {g : Nat} (T : TypeId) {r r2 : List Value} {e e2 : Ex} (hg : g = w.heap.size) (hF : F g) (h : ExAt F d (w.alloc (.cells (r ++ r2).toArray T)) r e) (h2 : ExAt F d (w.alloc (.cells (r ++ r2).toArray T)) r2 e2) : ExsAt F d (w.alloc (.cells (r ++ r2).toArray T)) (some ⟨g, 0, none⟩) 2 2 [e, e2] := by
 have h6 := h.len
 have h62 := h2.len
 refine exs_of (rows := [r, r2]) (RowsAt.lit' _ _ 2 hg (by simp) (by simp [h6, h62]) (by simp) (by unfold maxLen; omega)) (fun a ha _ => by cases ha; exact hF) rfl (fun k q x q1 q2 => ?_)
 rcases k with _ | _ | k
 ·simp at q1 q2; subst q1 q2; exact h
 ·simp at q1 q2; subst q1 q2; exact h2
 ·simp at q1
theorem laid_lt (w : World) (o : Obj) : Below w.heap.size w (w.alloc o) := (Below.refl _ _).alloc (Nat.le_refl _) _
theorem say1 (w : World) (hm : HasMax w) (hg : 0 < w.heap.size) (g1 g2 : Nat) (h1 : g1 = w.heap.size) (h2 : g2 = w.heap.size + 1) : Calls Tryz.prog 9 #[.agg #[.int .i64 19, .int .i64 0, .string ⟨#[]⟩, .string ⟨#[]⟩, .string ⟨#[]⟩, .slice (some ⟨g2, 0, none⟩) 1 1]] ((w.alloc (.cells #[.int .i64 4, .int .i64 0, .string ⟨#[]⟩, .string ⟨#[120]⟩, .string ⟨#[]⟩, .slice none 0 0, .int .i64 4, .int .i64 0, .string ⟨#[]⟩, .string ⟨#[121]⟩, .string ⟨#[]⟩, .slice none 0 0] 32)).alloc (.cells #[.int .i64 11, .int .i64 0, .string ⟨#[]⟩, .string ⟨#[]⟩, .string ⟨#[]⟩, .slice (some ⟨g1, 0, none⟩) 2 2] 32)) fun x w' => x = .returned (.tuple #[.string ⟨#[110, 111, 116, 32, 120, 32, 61, 32, 121]⟩, .int .i64 0]) ∧ Below w.heap.size w w' := by
 have ha : ExsAt (fun k => k < w.heap.size + 2) 1 (w.alloc (.cells (varRow ⟨#[120]⟩ ++ varRow ⟨#[121]⟩).toArray 32)) (some ⟨g1, 0, none⟩) 2 2 [vars ⟨#[120]⟩, vars ⟨#[121]⟩] := exs_two _ h1 (by omega) (ex_var (by unfold okS; decide +kernel)) (ex_var (by unfold okS; decide +kernel))
 have hb := exs_one (F := fun k => k < w.heap.size + 2) (d := 2) (w := w.alloc (.cells (varRow ⟨#[120]⟩ ++ varRow ⟨#[121]⟩).toArray 32)) (g := g2) 32 (r := opRow 11 (some ⟨g1, 0, none⟩) 2) (e := opx 11 [vars ⟨#[120]⟩, vars ⟨#[121]⟩]) (by simp [h2]) (by omega) (ex_opx (by decide) (by decide) (ha.below (laid_lt _ _)))
 have hx := ex_opx (op := 19) (by decide) (by decide) hb
 have hlow := (laid_lt w (.cells (varRow ⟨#[120]⟩ ++ varRow ⟨#[121]⟩).toArray 32)).alloc (by simp) (.cells (opRow 11 (some ⟨g1, 0, none⟩) 2).toArray 32)
 have h := printExpr_any (fun k => k < w.heap.size + 2) 3 ex1 _ _ hx (by decide) (fun k hk => by simp; omega) (hm.below hg hlow) (fun _ => ex1_len)
 rw [ex1_said] at h
 refine h.mono ?_
 rintro x w' ⟨rfl, hw⟩
 exact ⟨rfl, hlow.trans (hw.mono hlow.size)⟩
theorem say2 (w : World) (hm : HasMax w) (hg : 0 < w.heap.size) (g1 g2 : Nat) (h1 : g1 = w.heap.size) (h2 : g2 = w.heap.size + 1) : Calls Tryz.prog 9 #[.agg #[.int .i64 11, .int .i64 0, .string ⟨#[]⟩, .string ⟨#[]⟩, .string ⟨#[]⟩, .slice (some ⟨g2, 0, none⟩) 2 2]] ((w.alloc (.cells #[.int .i64 4, .int .i64 0, .string ⟨#[]⟩, .string ⟨#[120]⟩, .string ⟨#[]⟩, .slice none 0 0] 32)).alloc (.cells #[.int .i64 19, .int .i64 0, .string ⟨#[]⟩, .string ⟨#[]⟩, .string ⟨#[]⟩, .slice (some ⟨g1, 0, none⟩) 1 1, .int .i64 4, .int .i64 0, .string ⟨#[]⟩, .string ⟨#[121]⟩, .string ⟨#[]⟩, .slice none 0 0] 32)) fun x w' => x = .returned (.tuple #[.string ⟨#[40, 110, 111, 116, 32, 120, 41, 32, 61, 32, 121]⟩, .int .i64 0]) ∧ Below w.heap.size w w' := by
 have ha : ExsAt (fun k => k < w.heap.size + 2) 1 (w.alloc (.cells (varRow ⟨#[120]⟩).toArray 32)) (some ⟨g1, 0, none⟩) 1 1 [vars ⟨#[120]⟩] := exs_one _ h1 (by omega) (ex_var (by unfold okS; decide +kernel))
 have hb := exs_two (F := fun k => k < w.heap.size + 2) (d := 2) (w := w.alloc (.cells (varRow ⟨#[120]⟩).toArray 32)) (g := g2) 32 (r := opRow 19 (some ⟨g1, 0, none⟩) 1) (e := opx 19 [vars ⟨#[120]⟩]) (r2 := varRow ⟨#[121]⟩) (e2 := vars ⟨#[121]⟩) (by simp [h2]) (by omega) (ex_opx (by decide) (by decide) (ha.below (laid_lt _ _))) (ex_var (by unfold okS; decide +kernel))
 have hx := ex_opx (op := 11) (by decide) (by decide) hb
 have hlow := (laid_lt w (.cells (varRow ⟨#[120]⟩).toArray 32)).alloc (by simp) (.cells (opRow 19 (some ⟨g1, 0, none⟩) 1 ++ varRow ⟨#[121]⟩).toArray 32)
 have h := printExpr_any (fun k => k < w.heap.size + 2) 3 ex2 _ _ hx (by decide) (fun k hk => by simp; omega) (hm.below hg hlow) (fun _ => ex2_len)
 rw [ex2_said] at h
 refine h.mono ?_
 rintro x w' ⟨rfl, hw⟩
 exact ⟨rfl, hlow.trans (hw.mono hlow.size)⟩
theorem awakeP_any (w : World) (hm : HasMax w) : Calls Tryz.prog 7 #[] w fun x w' => x = .returned (.bool true) ∧ Below w.heap.size w w' := by
 obtain ⟨w2, Hw2⟩ : ∃ w2, Hid (w2 = ((w.alloc (.cells #[.int .i64 4, .int .i64 0, .string ⟨#[]⟩, .string ⟨#[120]⟩, .string ⟨#[]⟩, .slice none 0 0] 32)).alloc (.cells #[.int .i64 4, .int .i64 0, .string ⟨#[]⟩, .string ⟨#[121]⟩, .string ⟨#[]⟩, .slice none 0 0] 32))) := ⟨_, rfl⟩
 have hb2 : Below w.heap.size w w2 := by rw [Hw2.out]; exact (laid_lt _ _).alloc (by simp) _
 have hx2 : IsBlk w2 w.heap.size 32 #[.int .i64 4, .int .i64 0, .string ⟨#[]⟩, .string ⟨#[120]⟩, .string ⟨#[]⟩, .slice none 0 0] := by rw [Hw2.out]; exact (IsBlk.laid _ _ _).as_was ((laid_lt _ _).block _ (by simp))
 have hy2 : IsBlk w2 (w.heap.size + 1) 32 #[.int .i64 4, .int .i64 0, .string ⟨#[]⟩, .string ⟨#[121]⟩, .string ⟨#[]⟩, .slice none 0 0] := by rw [Hw2.out]; exact laid_at (by simp) _ _
 have Hx := Lhd (fun W (hW : Below w2.heap.size w2 W) => box6 (hx2.as_was (hW.block _ hx2.lt)))
 have Hy := Lhd (fun W (hW : Below w2.heap.size w2 W) => box6 (hy2.as_was (hW.block _ hy2.lt)))
 have hmg := Nat.lt_of_lt_of_le hm.lt hb2.size
 have H1 := Lhd (say1 w2 (hm.below hm.lt hb2) hmg w2.heap.size (w2.heap.size + 1) rfl rfl)
 have H2 := Lhd (fun W (hW : Below w2.heap.size w2 W) => say2 W ((hm.below hm.lt hb2).below hmg hW) (Nat.lt_of_lt_of_le hmg hW.size) W.heap.size (W.heap.size + 1) rfl rfl)
 obtain ⟨x0, x1, x2, x3, x4, x5, xl⟩ := Hx.out _ (Below.refl _ _)
 obtain ⟨y0, y1, y2, y3, y4, y5, yl⟩ := Hy.out _ (Below.refl _ _)
 have Hb2 := Lhd hb2
 clear hb2 hx2 hy2 hmg hm
 go_enter Tryz.func7, Tryz.ntmps7
 go_upto_region 3 with (fail)
 rw [← Hw2.out]
 go_wp2_with (go_at_call 9; refine H1.out.mono ?_)
 rintro x w3 ⟨rfl, hb3⟩
 obtain ⟨u0, u1, u2, u3, u4, u5, ul⟩ := Hx.out _ hb3
 obtain ⟨v0, v1, v2, v3, v4, v5, vl⟩ := Hy.out _ hb3
 have H3 := Lhd (H2.out _ hb3)
 have Hb3 := Lhd hb3
 clear hb3 x0 x1 x2 x3 x4 x5 xl y0 y1 y2 y3 y4 y5 yl
 go_wp2_with (go_at_call 9; refine H3.out.mono ?_)
 rintro x w4 ⟨rfl, hb4⟩
 have Hb4 := Lhd (Hb2.out.trans ((Hb3.out.trans (hb4.mono Hb3.out.size)).mono Hb2.out.size))
 clear hb4
 go_wp2
 go_ret
 exact ⟨ret_b (by simp), Hb4.out⟩
end Go.Proofs.YtjpiedpmnnepgaaGreatDoor
namespace Go.Afx
open Go.RowKit
def sepsT (l : List (List UInt8)) : List UInt8 := l.flatMap fun x => [44, 32] ++ x
def joinT : List (List UInt8) → List UInt8
 | [] => []
 | a :: r => a ++ sepsT r
theorem joinT_one (a : List UInt8) : joinT [a] = a := by simp [joinT, sepsT]
theorem joinT_snoc {l : List (List UInt8)} (a : List UInt8) (h : l ≠ []) : joinT (l ++ [a]) = joinT l ++ [44, 32] ++ a := by
 cases l with
 | nil => exact absurd rfl h
 | cons b r => simp [joinT, sepsT]
theorem joinT_take {l : List (List UInt8)} {k : Nat} (h : k < l.length) : joinT (l.take (k + 1)) = (if k = 0 then l[k]'h else joinT (l.take k) ++ [44, 32] ++ l[k]'h) := by
 rw [List.take_succ_eq_append_getElem h]
 split
 ·rename_i h0
  subst h0
  simp [joinT_one]
 ·rename_i h0
  rw [joinT_snoc]
  intro e
  have := congrArg List.length e
  rw [List.length_take, List.length_nil] at this
  omega
theorem joinT_take_le {l : List (List UInt8)} {k : Nat} (h : k < l.length) : (joinT (l.take k)).length + (if k = 0 then 0 else 2) + (l[k]'h).length ≤ (joinT l).length := by
 have hall : ∀ m, (joinT (l.take m)).length ≤ (joinT l).length := by
  intro m
  cases l with
  | nil => simp [joinT]
  | cons a r =>
   cases m with
   | zero => simp [joinT]
   | succ m =>
    rw [List.take_succ_cons]
    simp only [joinT, sepsT, List.length_append]
    have : ((r.take m).flatMap fun x => [44, 32] ++ x).length ≤ (r.flatMap fun x => ([44, 32] : List UInt8) ++ x).length := by
     conv => rhs; rw [← List.take_append_drop m r]
     rw [List.flatMap_append, List.length_append]
     omega
    omega
 have h1 := hall (k + 1)
 rw [joinT_take h] at h1
 split at h1
 ·rename_i h0
  subst h0
  simp [joinT] at h1 ⊢
  exact h1
 ·rename_i h0
  rw [if_neg h0]
  simp only [List.length_append, List.length_cons, List.length_nil] at h1
  omega
def indT (k : Nat) : List UInt8 := List.replicate (2 * k) 32
def blockT (f : Nat → St → List UInt8) (k : Nat) (l : List St) : List UInt8 :=
 if l = [] then [123, 125] else [123, 10] ++ (l.flatMap fun x => indT (k + 1) ++ f (k + 1) x ++ [10]) ++ indT k ++ [125]
def rowsX (d : Nat) (name src : ByteArray) : List Ex → List UInt8
 | [] => []
 | a :: _ => rowsT name src a.op a.n (txtE d a)
def setsT (d : Nat) : List ByteArray → List Ex → List (List UInt8)
 | c :: cs, e :: es => (c.data.toList ++ [32, 61, 32] ++ txtE d e) :: setsT d cs es
 | _, _ => []
def plainT (d : Nat) (op : Int) (name src : ByteArray) (cols : List ByteArray) (exprs : List Ex) : List UInt8 :=
 if op = 1 then [108, 101, 116, 32] ++ name.data.toList ++ [32, 61, 32] ++ joinT (exprs.map (txtE d))
 else if op = 2 then [115, 101, 116, 32] ++ name.data.toList ++ [32, 61, 32] ++ joinT (exprs.map (txtE d))
 else if op = 3 then [105, 110, 115, 101, 114, 116, 32] ++ src.data.toList ++ [40] ++ joinT (exprs.map (txtE d)) ++ [41]
 else if op = 8 then [101, 109, 105, 116, 32] ++ src.data.toList ++ [40] ++ joinT (exprs.map (txtE d)) ++ [41]
 else if op = 4 then [117, 112, 100, 97, 116, 101, 32] ++ rowsX d name src exprs ++ [32, 115, 101, 116, 32] ++ joinT (setsT d cols exprs.tail)
 else if op = 5 then [100, 101, 108, 101, 116, 101, 32] ++ rowsX d name src exprs
 else if op = 9 then [97, 98, 111, 114, 116, 32] ++ joinT (exprs.map (txtE d))
 else [114, 101, 112, 108, 121, 32] ++ joinT (exprs.map (txtE d))
def firstT (d : Nat) : List Ex → List UInt8
 | [] => []
 | a :: _ => txtE d a
def txtS : Nat → Nat → St → List UInt8
 | 0, _, _ => []
 | d + 1, k, x =>
  if x.op = 6 then [102, 111, 114, 32] ++ rowsX d x.name x.src x.exprs ++ (if 0 < x.n then [32, 108, 105, 109, 105, 116, 32] ++ decS x.n else []) ++ [32] ++ blockT (txtS d) k x.body
  else if x.op = 7 then [105, 102, 32] ++ firstT d x.exprs ++ [32] ++ blockT (txtS d) k x.body ++ (if x.els = [] then [] else [32, 101, 108, 115, 101, 32] ++ blockT (txtS d) k x.els)
  else plainT d x.op x.name x.src x.cols x.exprs ++ [59]
def nlS : Nat → St → Bool
 | 0, _ => false
 | d + 1, x => x.exprs.any (nlE d) || x.body.any (nlS d) || x.els.any (nlS d)
def kindT (k : Int) : List UInt8 := if k = 1 then [105, 110, 116] else if k = 2 then [116, 101, 120, 116] else [98, 111, 111, 108]
def paramT (c : Co) : List UInt8 := c.name.data.toList ++ [32] ++ kindT c.kind
def txtP (d : Nat) (p : Pr) : List UInt8 :=
 [112, 114, 111, 99, 32] ++ p.name.data.toList ++ [40] ++ joinT (p.params.map paramT) ++ [41] ++ (if noS p.part then [] else [32, 111, 110, 32] ++ p.part.data.toList) ++
 (if noS p.src then [] else [32, 102, 114, 111, 109, 32] ++ p.src.data.toList) ++ (if p.fuel = 100 then [] else [32, 102, 117, 101, 108, 32] ++ decS p.fuel) ++ [32] ++ blockT (txtS d) 0 p.body
def nlP (d : Nat) (p : Pr) : Bool := p.body.any (nlS d)
end Go.Afx
