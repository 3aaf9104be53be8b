/- Parts of this proof, one behind the other: PrtM, PrtN, PrtO, PrtQ, PrtS, PrtR. -/
import Derived.Test.YtmgldjpdhpopnaaGreatDoorPp32
import Derived.Test.YtmgldjpdhpopnaaGreatDoorPp5
import Derived.Test.YtmgldjpdhpopnaaGreatDoorPp3
import Derived.Test.YtmgldjpdhpopnaaGreatDoorPp30
import Derived.Test.YtmgldjpdhpopnaaGreatDoorPp31
import Derived.Laws.DeepStrings4
set_option maxRecDepth 1000000
set_option maxHeartbeats 40000000
namespace Go.Proofs.YtmgldjpdhpopnaaGreatDoor
open Go.RowKit Go.Afx
def rightE (d : Nat) (e : Ex) : Bool := smallZ (sizeE d 0 e) && builtE d e
theorem ret_b {a b : Bool} (h : a = b) : Ending.returned (.bool a) = .returned (.bool b) := by rw [h]
theorem rightE_any (F : Nat → Prop) (d : Nat) (e : Ex) (row : List Value) (w : World) (h : ExAt F d w row e) (hd : d ≤ 10000) :
  Calls Tryz.prog 24 #[.agg row.toArray] w fun x w' => x = .returned (.bool (rightE d e)) ∧ Below w.heap.size w w' := by
 have hq : rightE d e = (smallZ (sizeE d 0 e) && builtE d e) := rfl
 obtain ⟨A, m, c, hrow⟩ := ex_row h
 obtain ⟨w1, Hw1⟩ : ∃ w1, Hid (w1 = w.alloc (.cells row.toArray 32)) := ⟨_, rfl⟩
 have hb1 : Below w.heap.size w w1 := by rw [Hw1.out]; exact (Below.refl _ _).alloc (Nat.le_refl _) _
 have hk1 : IsBlk w1 w.heap.size 32 row.toArray := by rw [Hw1.out]; exact IsBlk.laid _ _ _
 have Hx := Lhd (fun W (hW : Below w1.heap.size w1 W) => (show IsBlk W w.heap.size 32 row.toArray from hk1.as_was (hW.block _ hk1.lt)))
 have Hs := Lhd (sizeE_any F d e row 0 w1 (h.below hb1) (by omega) (by omega))
 have Hb := Lhd (fun W (hW : Below w.heap.size w W) => builtE_any F d e row W (h.below hW))
 have Hb1 := Lhd hb1
 subst hrow
 generalize sizeE d 0 e = s at *
 generalize builtE d e = qb at *
 generalize rightE d e = fin at *
 have Hfin := Lhd hq
 obtain ⟨s1, s2⟩ := s
 clear hq h hb1 hk1
 go_enter Tryz.func24, Tryz.ntmps24
 go_upto_region 1 with (fail)
 rw [← Hw1.out]
 obtain ⟨x0, x1, x2, x3, x4, x5, xl⟩ := box6 (Hx.out _ (Below.refl _ _))
 go_upto_region 2 with (go_at_call 50; refine Hs.out.mono ?_; rintro x w2 ⟨rfl, hb2⟩)
 have hk : IsBlk (w2.alloc (.cells #[.int .i64 s1, .int .i64 s2] 108)) w2.heap.size 108 #[.int .i64 s1, .int .i64 s2] := IsBlk.laid _ _ _
 have hb3 : Below w1.heap.size w1 (w2.alloc (.cells #[.int .i64 s1, .int .i64 s2] 108)) := hb2.alloc hb2.size _
 generalize w2.alloc (.cells #[.int .i64 s1, .int .i64 s2] 108) = w3 at *
 have Hs3 := Lhd (small_any _ s1 s2 w3 hk)
 have hbb := Hb1.out.trans (hb3.mono Hb1.out.size)
 have Hb3 := Lhd (And.intro (Hb.out _ hbb) hbb)
 clear x0 x1 x2 x3 x4 x5 xl
 obtain ⟨x0, x1, x2, x3, x4, x5, xl⟩ := box6 (Hx.out _ hb3)
 have hkl := hk.lt
 clear hk hb2 hb3 hbb
 generalize smallZ (s1, s2) = qs at *
 cases qs
 ·go_wp2_with (go_at_call 51; refine Hs3.out.mono ?_; rintro x w' ⟨rfl, rfl⟩)
  go_ret
  exact ⟨ret_b (by rw [Hfin.out]; simp), Hb3.out.2⟩
 ·go_wp2_with (first | (go_at_call 51; refine Hs3.out.mono ?_; rintro x w' ⟨rfl, rfl⟩) | (go_at_call 52; refine Hb3.out.1.mono ?_; rintro x w4 ⟨rfl, hb4⟩))
  go_ret
  exact ⟨ret_b (by rw [Hfin.out]; simp), Hb3.out.2.trans (hb4.mono Hb3.out.2.size)⟩
theorem len_any (g : Nat) (t : List UInt8) (br : Bool) (w : World) (h : WtAt g t br w) : Calls Tryz.prog 48 #[.pointer (some ⟨g, 0, none⟩)] w fun e w' => e = .returned (.int .i64 t.length) ∧ w = w' := by
 obtain ⟨p, A, c, hk, _⟩ : ∃ p A c, IsBlk w g 104 #[.pointer p, .slice A t.length c, .bool br] ∧ True := by
  rcases h with ⟨A, c, hk, _⟩ | ⟨A, c, hk, _⟩ <;> exact ⟨_, _, _, hk, trivial⟩
 obtain ⟨c0, c1, c2, hlt, _⟩ := wtBox hk
 clear h hk
 go_enter Tryz.func48, Tryz.ntmps48
 go_wp2
 go_ret
 exact ⟨rfl, rfl⟩
theorem string_any (g : Nat) (t : List UInt8) (br : Bool) (w : World) (h : WtAt g t br w) (h0 : t ≠ []) : Calls Tryz.prog 49 #[.pointer (some ⟨g, 0, none⟩)] w fun e w' => e = .returned (.string ⟨t.toArray⟩) ∧ Below g w w' := by
 obtain ⟨p, A, c, hk, ho⟩ : ∃ p A c, IsBlk w g 104 #[.pointer p, .slice A t.length c, .bool br] ∧ w.ownsRow (g + 1) 5 1 (.slice A t.length c) t.length (Lib.byteCells t) := by
  rcases h with ⟨A, c, hk, ho⟩ | ⟨A, c, hk, ho⟩ <;> exact ⟨_, _, _, hk, ho⟩
 have hl0 : t.length ≠ 0 := by simpa using h0
 obtain ⟨k, cap, cur, hA, hbk, hkk, hnc, hcm, hcs, htake⟩ : ∃ k cap cur, (Value.slice A t.length c) = .slice (some ⟨k, 0, none⟩) t.length cap ∧ g + 1 ≤ k ∧ w.heap[k]? = some (.cells cur 5 (0, 0)) ∧ t.length ≤ cap ∧ cap ≤ maxLen ∧ cur.size = cap * 1 ∧ cur.toList.take (t.length * 1) = Lib.byteCells t := by
  rcases ho.2 with ⟨_, hz⟩ | ⟨k, cap, cur, hv, r⟩
  ·exact absurd hz hl0
  ·exact ⟨k, cap, cur, hv, r⟩
 injection hA with e1 e2 e3
 subst e1 e3
 have hkd : IsBlk w.drew g 104 #[.pointer p, .slice (some ⟨k, 0, none⟩) t.length c, .bool br] := hk
 obtain ⟨c0, c1, c2, hlt, _⟩ := wtBox hkd
 have hSD : ∀ ts ty, (Builtin.unsafeSliceData_ ts ty #[.slice (some ⟨k, 0, none⟩) t.length c]).run Tryz.prog w.drew = .ok (.pointer (some ⟨k, 0, none⟩)) w.drew := fun ts ty => Lib.run_unsafeSliceData_row _ _ _ _ _ _ (by omega)
 have hUS : (Builtin.unsafeString_ #[152, 3] 9 #[.pointer (some ⟨k, 0, none⟩), .int .i64 t.length]).run Tryz.prog w.drew = .ok (.string ⟨t.toArray⟩) (w.drew.freeze ⟨k, 0, none⟩ t.length) := by
  refine Lib.run_unsafeString_row w.drew 152 3 9 5 Tryz.underlying152 (by kernel_rfl) k cur.size (by have hg' : w.drew.heap[k]? = some (.cells cur 5 (0, 0)) := hkk; simp [World.shape?, hg']) t h0 (by omega) (by unfold maxLen at hcm; omega) ?_
  intro j x hx
  have := ho.cells (g := k) rfl j (.int .u8 x.toNat) (by simp [Lib.byteCells, hx])
  exact this
 clear h hk hkd ho htake hkk
 go_enter Tryz.func49, Tryz.ntmps49
 go_wp2
 go_region
 all_goals (go_wp2; go_ret; exact ⟨rfl, Lib.below_freeze (Below.drew (Below.refl g w)) (p := ⟨k, 0, none⟩) (show g ≤ k by omega) _⟩)
theorem digs_ne {n : Nat} (h : 0 < n) : digs n ≠ [] := by rw [digs_pos h]; simp
theorem free_ne {s : ByteArray} (h : freeB s = true) : s.data.toList ≠ [] := by
 intro e
 unfold freeB namedB at h
 rw [e] at h
 simp at h
theorem txt_ne {d : Nat} {e : Ex} (h : builtE d e = true) : txtE d e ≠ [] := by
 obtain ⟨o1, o2⟩ := built_op h
 cases d with
 | zero => cases h
 | succ d =>
  obtain ⟨op, n, s, name, src, args⟩ := e
  have o1 : 1 ≤ op := o1
  have o2 : op ≤ 24 := o2
  obtain ⟨ha, hf, _⟩ := fields_op h
  rw [txt_op]
  by_cases h5 : op ≤ 5
  ·have h5 : op = 1 ∨ op = 2 ∨ op = 3 ∨ op = 4 ∨ op = 5 := by omega
   rcases h5 with rfl | rfl | rfl | rfl | rfl
   ·have e : fieldsR 1 n s name src = (decide (0 ≤ n) && noS s && noS name && noS src) := rfl
    rw [e] at hf
    simp only [Bool.and_eq_true, decide_eq_true_eq] at hf
    rw [if_pos rfl]
    unfold decS
    split
    ·simp
    ·exact digs_ne (by have := hf.1.1.1; omega)
   ·simp [quoteS]
   ·simp only [trueL, falseL]
    split <;> simp_all
    split <;> simp
   ·have e : fieldsR 4 n s name src = (freeB name && decide (n = 0) && noS s && noS src) := rfl
    rw [e] at hf
    simp only [Bool.and_eq_true] at hf
    simpa using free_ne hf.1.1.1
   ·simp
  ·rw [if_neg (by omega), if_neg (by omega), if_neg (by omega), if_neg (by omega), if_neg (by omega)]
   rcases args with _ | ⟨a, r⟩
   ·exfalso
    rcases len_args ha (by omega) o2 with ⟨h1, _⟩ | ⟨h1, _⟩ <;> simp at h1
   ·simp only
    split
    ·have : sgnL op ≠ [] := by
      rename_i h
      rcases h with rfl | rfl <;> decide
     simp [this]
    ·split <;> simp
theorem kept_any (F : Nat → Prop) (d : Nat) (e : Ex) (row : List Value) (x g : Nat) (t : List UInt8) (br : Bool) (w : World) (hx : ExAt F d w row e) (hb : builtE d e = true) (hF : ∀ k, F k → k < g) (hk : IsBlk w x 32 row.toArray) (h : WtAt g t br w) (hm : HasMax w) (hg : 0 < g) (hlen : t.length + (txtE d e).length ≤ 1000000000) :
  Calls Tryz.prog 25 #[.pointer (some ⟨g, 0, none⟩), .pointer (some ⟨x, 0, none⟩)] w fun e' w' => e' = .returned (.tuple #[]) ∧ WtAt g (t ++ txtE d e) (br || nlE d e) w' ∧ Wrote g w w' := by
 obtain ⟨A, m, c, hrow⟩ := ex_row hx
 have Hc := Lhd (expr_any d F e row g t br w hx hb hF h hm hg hlen)
 subst hrow
 obtain ⟨x0, x1, x2, x3, x4, x5, xl⟩ := box6 hk
 clear hx hb hF hk h hm hg hlen
 go_enter Tryz.func25, Tryz.ntmps25
 go_wp2_with (go_at_call 26; refine Hc.out.mono ?_)
 rintro e' w2 ⟨rfl, h1, h2⟩
 have H := Lhd (And.intro h1 h2)
 clear h1 h2
 go_wp2
 go_end0
 exact ⟨rfl, H.out.1, H.out.2⟩
theorem printed_no (f : Value) (w : World) : Calls Tryz.prog 23 #[.bool false, f] w fun e w' => e = .returned (.tuple #[.string ⟨#[]⟩, .int .i64 1]) ∧ w = w' := by
 go_enter Tryz.func23, Tryz.ntmps23
 go_wp2
 go_ret2
 exact ⟨rfl, rfl⟩
def printS (br : Bool) (t : List UInt8) : List UInt8 × Int := if br then ([], 1) else if 8000 < t.length then ([], 5) else (t, 0)
theorem wt_new (w : World) : WtAt w.heap.size [] false (w.alloc (.cells #[.pointer none, .slice none 0 0, .bool false] 104)) := .inl ⟨none, 0, IsBlk.laid _ _ _, World.ownsRow_nil _ _ _ _⟩
theorem printed_yes (x : Nat) (t : List UInt8) (br : Bool) (w : World) (ht : t ≠ [])
  (hc : ∀ W, Below w.heap.size w W → WtAt w.heap.size [] false W → Calls Tryz.prog 25 #[.pointer (some ⟨w.heap.size, 0, none⟩), .pointer (some ⟨x, 0, none⟩)] W fun e' w' => e' = .returned (.tuple #[]) ∧ WtAt w.heap.size t br w' ∧ Wrote w.heap.size W w') :
  Calls Tryz.prog 23 #[.bool true, .func (.func 25) #[] #[.pointer (some ⟨x, 0, none⟩)]] w fun e w' => e = .returned (.tuple #[.string ⟨(printS br t).1.toArray⟩, .int .i64 (printS br t).2]) ∧ Below w.heap.size w w' := by
 have hb1 : Below w.heap.size w (w.alloc (.cells #[.pointer none, .slice none 0 0, .bool false] 104)) := (Below.refl _ _).alloc (Nat.le_refl _) _
 have Hc := Lhd (hc _ hb1 (wt_new w))
 have Hb1 := Lhd hb1
 have Ht := Lhd ht
 clear hc hb1 ht
 go_enter Tryz.func23, Tryz.ntmps23
 go_wp2_with (go_at_call 25; refine Hc.out.mono ?_)
 rintro e' w2 ⟨rfl, h2, hr2⟩
 obtain ⟨b1, _, b3⟩ := h2.brk
 have Hr2 := Lhd (And.intro h2 (Hb1.out.trans hr2.1))
 have Hln := Lhd (len_any _ _ _ _ h2)
 have Hst := Lhd (string_any _ _ _ _ h2 Ht.out)
 clear h2 hr2
 cases br
 ·rcases Classical.em (8000 < t.length) with hl | hl
  ·have hd : decide ((8000 : Int) < (t.length : Int)) = true := by simp; omega
   have e : printS false t = ([], 5) := by unfold printS; rw [if_neg (by decide), if_pos hl]
   have He := Lhd e
   clear hl e
   go_wp2_with (go_at_call 48; refine Hln.out.mono ?_; rintro e' w3 ⟨rfl, rfl⟩)
   go_ret2
   rw [He.out]
   exact ⟨rfl, Hr2.out.2⟩
  ·have hd : decide ((8000 : Int) < (t.length : Int)) = false := by simp; omega
   have e : printS false t = (t, 0) := by unfold printS; rw [if_neg (by decide), if_neg hl]
   have He := Lhd e
   clear hl e
   go_wp2_with (first | (go_at_call 48; refine Hln.out.mono ?_; rintro e' w3 ⟨rfl, rfl⟩) | (go_at_call 49; refine Hst.out.mono ?_; rintro e' w4 ⟨rfl, hb4⟩))
   go_ret2
   rw [He.out]
   exact ⟨rfl, Hr2.out.2.trans hb4⟩
 ·have e : printS true t = ([], 1) := by unfold printS; rw [if_pos rfl]
  have He := Lhd e
  clear e
  go_wp2
  go_ret2
  rw [He.out]
  exact ⟨rfl, Hr2.out.2⟩
def exprS (d : Nat) (e : Ex) : List UInt8 × Int := if rightE d e then printS (nlE d e) (txtE d e) else ([], 1)
theorem printExpr_any (F : Nat → Prop) (d : Nat) (e : Ex) (row : List Value) (w : World) (h : ExAt F d w row e) (hd : d ≤ 10000) (hF : ∀ k, F k → k < w.heap.size) (hm : HasMax w) (hlen : rightE d e = true → (txtE d e).length ≤ 1000000000) :
  Calls Tryz.prog 10 #[.agg row.toArray] w fun x w' => x = .returned (.tuple #[.string ⟨(exprS d e).1.toArray⟩, .int .i64 (exprS d e).2]) ∧ Below w.heap.size w w' := by
 obtain ⟨A, m, c, hrow⟩ := ex_row h
 obtain ⟨w1, Hw1⟩ : ∃ w1, Hid (w1 = w.alloc (.cells row.toArray 32)) := ⟨_, rfl⟩
 have hb1 : Below w.heap.size w w1 := by rw [Hw1.out]; exact (Below.refl _ _).alloc (Nat.le_refl _) _
 have hk1 : IsBlk w1 w.heap.size 32 row.toArray := by rw [Hw1.out]; exact IsBlk.laid _ _ _
 have Hri := Lhd (rightE_any F d e row w1 (h.below hb1) hd)
 have Hyes := Lhd (fun W (hW : Below w1.heap.size w1 W) (hr : rightE d e = true) => printed_yes w.heap.size (txtE d e) (nlE d e) W (txt_ne (by unfold rightE at hr; simp only [Bool.and_eq_true] at hr; exact hr.2)) (fun W2 h2 hwt => by
  have hbe : builtE d e = true := by unfold rightE at hr; simp only [Bool.and_eq_true] at hr; exact hr.2
  have hall : Below w.heap.size w W2 := hb1.trans ((hW.mono hb1.size).trans (h2.mono (Nat.le_trans hb1.size hW.size)))
  have hk := (hk1.as_was (hW.block _ hk1.lt)).as_was (h2.block _ (Nat.lt_of_lt_of_le hk1.lt hW.size))
  have hmg := Nat.lt_of_lt_of_le hm.lt (Nat.le_trans hb1.size hW.size)
  have hres := kept_any F d e row w.heap.size W.heap.size [] false W2 (h.below hall) hbe (fun k hk => Nat.lt_of_lt_of_le (hF k hk) (Nat.le_trans hb1.size hW.size)) hk hwt (hm.below hm.lt hall) hmg (by simpa using hlen hr)
  rw [List.nil_append, Bool.false_or] at hres
  exact hres))
 have Hb1 := Lhd hb1
 have Hex := Lhd (show exprS d e = if rightE d e then printS (nlE d e) (txtE d e) else ([], 1) from rfl)
 generalize exprS d e = fin at *
 obtain ⟨x0, x1, x2, x3, x4, x5, xl⟩ := box6 (show IsBlk w1 w.heap.size 32 #[.int .i64 e.op, .int .i64 e.n, .string e.s, .string e.name, .string e.src, .slice A m c] from by rw [hrow] at hk1; exact hk1)
 subst hrow
 have hmf : ∀ (fn : Fn) (first cap : Array Value) (w : World), (Instr.makeFunc fn first cap).run Tryz.prog w = .ok (.func fn first cap) w := fun _ _ _ _ => rfl
 clear h hb1 hk1 hF hm hlen hd
 generalize rightE d e = ri at *
 cases ri
 ·clear Hyes
  go_enter Tryz.func10, Tryz.ntmps10
  go_upto_region 1 with (fail)
  rw [← Hw1.out]
  go_wp2_with (first | (go_at_call 24; refine Hri.out.mono ?_; rintro x w2 ⟨rfl, hb2⟩) | (go_at_call 23; refine (printed_no _ _).mono ?_; rintro x w3 ⟨rfl, rfl⟩))
  go_ret2
  rw [Hex.out]
  exact ⟨rfl, Hb1.out.trans (hb2.mono Hb1.out.size)⟩
 ·have Hy := Lhd (fun W hW => Hyes.out W hW rfl)
  clear Hyes
  go_enter Tryz.func10, Tryz.ntmps10
  go_upto_region 1 with (fail)
  rw [← Hw1.out]
  go_wp2_with (first | (go_at_call 24; refine Hri.out.mono ?_; rintro x w2 ⟨rfl, hb2⟩) | (go_at_call 23; refine (Hy.out _ hb2).mono ?_; rintro x w3 ⟨rfl, hb3⟩))
  go_ret2
  rw [Hex.out]
  exact ⟨rfl, Hb1.out.trans ((hb2.mono Hb1.out.size).trans (hb3.mono (Nat.le_trans Hb1.out.size hb2.size)))⟩
theorem txt_len {F : Nat → Prop} {w : World} : ∀ (d : Nat) (e : Ex) (row : List Value), ExAt F d w row e → builtE d e = true → (txtE d e).length ≤ 500 * cntE d e := by
 intro d
 induction d with
 | zero => intro e row hx h; cases h
 | succ d ih =>
  intro e row hx h
  obtain ⟨o1, o2⟩ := built_op h
  obtain ⟨op, n, s, name, src, args⟩ := e
  have o1 : 1 ≤ op := o1
  have o2 : op ≤ 24 := o2
  obtain ⟨ha, hf, hall⟩ := fields_op h
  have hc : cntE (d + 1) (.mk op n s name src args) = 1 + (args.map (cntE d)).sum := rfl
  have hsg := sgnL_len o1 o2
  rw [txt_op, hc]
  by_cases h5 : op ≤ 5
  ·suffices hs : (if op = 1 then decS n else if op = 2 then quoteS s else if op = 3 then (if n = 1 then trueL else falseL) else if op = 4 then name.data.toList else if op = 5 then name.data.toList ++ [46] ++ s.data.toList else []).length ≤ 500 by
    have h5 : op = 1 ∨ op = 2 ∨ op = 3 ∨ op = 4 ∨ op = 5 := by omega
    rcases h5 with rfl | rfl | rfl | rfl | rfl <;> exact Nat.le_trans hs (by omega)
   have h5 : op = 1 ∨ op = 2 ∨ op = 3 ∨ op = 4 ∨ op = 5 := by omega
   rcases h5 with rfl | rfl | rfl | rfl | rfl
   ·show (decS n).length ≤ 500
    unfold decS
    have h1 := decS_len (show okI n from hx.open_.2.1)
    unfold decS at h1
    omega
   ·have e : fieldsR 2 n s name src = (decide (s.size ≤ 200) && decide (n = 0) && noS name && noS src) := rfl
    rw [e] at hf
    simp only [Bool.and_eq_true, decide_eq_true_eq] at hf
    show (quoteS s).length ≤ 500
    unfold quoteS
    have h1 := dbl_len s.data.toList
    have h2 : s.data.toList.length = s.size := rfl
    have h3 := hf.1.1.1
    simp only [List.length_append, List.length_cons, List.length_nil]
    omega
   ·show (if n = 1 then trueL else falseL).length ≤ 500
    split <;> decide
   ·have e : fieldsR 4 n s name src = (freeB name && decide (n = 0) && noS s && noS src) := rfl
    rw [e] at hf
    simp only [Bool.and_eq_true] at hf
    have := named_len hf.1.1.1
    show name.data.toList.length ≤ 500
    omega
   ·have e : fieldsR 5 n s name src = (freeB name && freeB s && decide (n = 0) && noS src) := rfl
    rw [e] at hf
    simp only [Bool.and_eq_true] at hf
    have h1 := named_len hf.1.1.1
    have h2 := named_len hf.1.1.2
    show (name.data.toList ++ [46] ++ s.data.toList).length ≤ 500
    simp only [List.length_append, List.length_cons, List.length_nil]
    omega
  ·rw [if_neg (by omega), if_neg (by omega), if_neg (by omega), if_neg (by omega), if_neg (by omega)]
   obtain ⟨A, c, rfl, _, _, hat⟩ := args_at hx
   rcases args with _ | ⟨a, r⟩
   ·simp
   ·obtain ⟨b, o, _, _, _, hget⟩ := hat (by simp)
    obtain ⟨A1, m1, c1, _, hx1⟩ := hget 0 a rfl
    have h1 := ih a _ hx1 (hall a (by simp))
    rcases r with _ | ⟨a2, r⟩
    ·simp only [List.map_cons, List.map_nil, List.sum_cons, List.sum_nil]
     split
     ·have := opnd_len (lvlZ op) a.op (txtE d a)
      rw [List.length_append]
      omega
     ·split
      ·rename_i h21
       have hr : fieldsR op n s name src = (freeB name && freeB src && decide (n = 0) && noS s) := by
        unfold fieldsR
        rw [if_neg (by omega), if_neg (by omega), if_neg (by omega), if_neg (by omega), if_neg (by omega), if_pos]
        simp [rowsB]; omega
       rw [hr] at hf
       simp only [Bool.and_eq_true] at hf
       have n1 := named_len hf.1.1.1
       have n2 := named_len hf.1.1.2
       have hw := whereT_len a.op a.n (txtE d a)
       unfold rowsT
       split <;> simp only [List.length_append, List.length_cons, List.length_nil] <;> omega
      ·have h3 := opnd_len (lvlZ op + if lvlZ op = 4 then 1 else 0) a.op (txtE d a)
       simp only [List.length_append, List.length_cons, List.length_nil]
       omega
    ·obtain ⟨A2, m2, c2, _, hx2⟩ := hget 1 a2 rfl
     have h2 := ih a2 _ hx2 (hall a2 (by simp))
     simp only [List.map_cons, List.sum_cons]
     split
     ·have := opnd_len (lvlZ op) a.op (txtE d a)
      rw [List.length_append]
      omega
     ·split
      ·rename_i h21
       have hr : fieldsR op n s name src = (freeB name && freeB src && decide (n = 0) && noS s) := by
        unfold fieldsR
        rw [if_neg (by omega), if_neg (by omega), if_neg (by omega), if_neg (by omega), if_neg (by omega), if_pos]
        simp [rowsB]; omega
       rw [hr] at hf
       simp only [Bool.and_eq_true] at hf
       have n1 := named_len hf.1.1.1
       have n2 := named_len hf.1.1.2
       have hw := whereT_len a.op a.n (txtE d a)
       unfold rowsT
       split <;> simp only [List.length_append, List.length_cons, List.length_nil] <;> omega
      ·have h3 := opnd_len (lvlZ op + if lvlZ op = 4 then 1 else 0) a.op (txtE d a)
       have h4 := opnd_len (lvlZ op + 1) a2.op (txtE d a2)
       simp only [List.length_append, List.length_cons, List.length_nil]
       omega
theorem right_len {F : Nat → Prop} {w : World} {d : Nat} {e : Ex} {row : List Value} (hx : ExAt F d w row e) (hd : d ≤ 900) (h : rightE d e = true) : (txtE d e).length ≤ 1000000000 := by
 unfold rightE at h
 simp only [Bool.and_eq_true] at h
 obtain ⟨h1, h2⟩ := h
 obtain ⟨c1, c2, _⟩ := sizeE_cts d 0 e (by omega) hd
 simp only [smallZ, Bool.and_eq_true, decide_eq_true_eq] at h1
 have h3 := txt_len d e row hx h2
 omega
theorem right_cnt {d : Nat} {e : Ex} (hd : d ≤ 900) : rightE d e = (decide (cntE d e ≤ 300) && decide (dptE d e ≤ 12) && builtE d e) := by
 obtain ⟨c1, c2, _⟩ := sizeE_cts d 0 e (by omega) hd
 unfold rightE smallZ
 congr 1
 by_cases h : cntE d e ≤ 300
 ·have e1 : (sizeE d 0 e).1 ≤ 300 := by omega
  have e2 := c2 (by omega)
  rw [e2, decide_eq_true e1, decide_eq_true h]
  simp only [Bool.true_and, decide_eq_decide]
  omega
 ·have e1 : ¬ (sizeE d 0 e).1 ≤ 300 := by omega
  rw [decide_eq_false e1, decide_eq_false h]
  rfl
def bindS (op : Int) : List UInt8 := if op < 6 ∨ 20 < op then [] else sgnL op
def BindQ (op : Int) (w : World) (e : Ending) (w' : World) : Prop := e = .returned (.tuple #[.string ⟨(bindS op).toArray⟩, .int .i64 (lvlZ op)]) ∧ Below w.heap.size w w'
theorem two_new (w : World) (o o2 : Obj) : Below w.heap.size w ((w.alloc o).alloc o2) := ((Below.refl _ _).alloc (Nat.le_refl _) _).alloc (by simp) _
theorem bind_a (op : Int) (w : World) (h : op = 1 ∨ op = 2 ∨ op = 3 ∨ op = 4 ∨ op = 5 ∨ op = 21 ∨ op = 22 ∨ op = 23 ∨ op = 24) : Calls Tryz.prog 174 #[.int .i64 op] w (BindQ op w) := by
 rcases h with rfl | rfl | rfl | rfl | rfl | rfl | rfl | rfl | rfl
 all_goals
  go_enter Tryz.func174, Tryz.ntmps174
  go_wp2
  go_ret2
  exact ⟨rfl, two_new _ _ _⟩
theorem bind_b (op : Int) (w : World) (h : op = 6 ∨ op = 7 ∨ op = 8 ∨ op = 9 ∨ op = 10) : Calls Tryz.prog 174 #[.int .i64 op] w (BindQ op w) := by
 rcases h with rfl | rfl | rfl | rfl | rfl
 all_goals
  go_enter Tryz.func174, Tryz.ntmps174
  go_wp2
  go_region
  all_goals
   go_wp2
   go_ret2
   exact ⟨rfl, by repeat (first | exact two_new _ _ _ | refine Below.drew ?_)⟩
theorem bind_c (op : Int) (w : World) (h : op = 11 ∨ op = 12 ∨ op = 13 ∨ op = 14 ∨ op = 15) : Calls Tryz.prog 174 #[.int .i64 op] w (BindQ op w) := by
 rcases h with rfl | rfl | rfl | rfl | rfl
 all_goals
  go_enter Tryz.func174, Tryz.ntmps174
  go_wp2
  go_region
  all_goals
   go_wp2
   go_ret2
   exact ⟨rfl, by repeat (first | exact two_new _ _ _ | refine Below.drew ?_)⟩
theorem bind_d (op : Int) (w : World) (h : op = 16 ∨ op = 17 ∨ op = 18 ∨ op = 19 ∨ op = 20) : Calls Tryz.prog 174 #[.int .i64 op] w (BindQ op w) := by
 rcases h with rfl | rfl | rfl | rfl | rfl
 all_goals
  go_enter Tryz.func174, Tryz.ntmps174
  go_wp2
  go_region
  all_goals
   go_wp2
   go_ret2
   exact ⟨rfl, by repeat (first | exact two_new _ _ _ | refine Below.drew ?_)⟩
theorem bind_any (op : Int) (w : World) (h1 : 1 ≤ op) (h2 : op ≤ 24) : Calls Tryz.prog 174 #[.int .i64 op] w (BindQ op w) := by
 by_cases h : 6 ≤ op ∧ op ≤ 20
 ·by_cases h1 : op ≤ 10
  ·exact bind_b op w (by omega)
  ·by_cases h2 : op ≤ 15
   ·exact bind_c op w (by omega)
   ·exact bind_d op w (by omega)
 ·exact bind_a op w (by omega)
def RefC (F : Nat → Prop) (d : Nat) : Prop := ∀ (e : Ex) (row : List Value) (w : World), ExAt F d w row e → builtE d e = true → (txtE d e).length ≤ 1000000000 →
 Calls Tryz.prog 139 #[.agg row.toArray] w fun e' w' => e' = .returned (.string ⟨(txtE d e).toArray⟩) ∧ Below w.heap.size w w'
theorem refIn_any (F : Nat → Prop) (d : Nat) (hE : RefC F d) (e : Ex) (row : List Value) (least : Int) (w : World) (hx : ExAt F d w row e) (hb : builtE d e = true) (hlen : (txtE d e).length ≤ 1000000000) :
  Calls Tryz.prog 176 #[.agg row.toArray, .int .i64 least] w fun e' w' => e' = .returned (.string ⟨(opnd least e.op (txtE d e)).toArray⟩) ∧ Below w.heap.size w w' := by
 obtain ⟨o1, o2⟩ := built_op hb
 obtain ⟨A, m, c, hrow⟩ := ex_row hx
 have Hsg := Lhd (fun W => bind_any e.op W o1 o2)
 obtain ⟨w1, Hw1⟩ : ∃ w1, Hid (w1 = w.alloc (.cells row.toArray 32)) := ⟨_, rfl⟩
 have hb1 : Below w.heap.size w w1 := by rw [Hw1.out]; exact (Below.refl _ _).alloc (Nat.le_refl _) _
 have hk1 : IsBlk w1 w.heap.size 32 row.toArray := by rw [Hw1.out]; exact IsBlk.laid _ _ _
 have Hx := Lhd (fun W (hW : Below w1.heap.size w1 W) => (show IsBlk W w.heap.size 32 row.toArray from hk1.as_was (hW.block _ hk1.lt)))
 have Hee := Lhd (fun W (hW : Below w1.heap.size w1 W) => hE e row W (hx.below (hb1.trans (hW.mono hb1.size))) hb hlen)
 have Hop := Lhd (show opnd least e.op (txtE d e) = if lvlZ e.op < least then [40] ++ txtE d e ++ [41] else txtE d e from rfl)
 generalize opnd least e.op (txtE d e) = fin at *
 obtain ⟨T, hT⟩ : ∃ T : ByteArray, (⟨(txtE d e).toArray⟩ : ByteArray) = T := ⟨_, rfl⟩
 have hTs : T.size = (txtE d e).length := by rw [← hT]; show (txtE d e).toArray.size = _; simp
 have HT := Lhd (show T.data.toList = txtE d e from by rw [← hT])
 have n1 : ¬ 9223372036854775807 < 1 + T.size := by omega
 have n2 : ¬ 9223372036854775807 < 1 + T.size + 1 := by omega
 rw [hT] at Hee
 subst hrow
 have Hb1 := Lhd hb1
 clear hE hx hb hk1 hb1 hT hTs hlen
 obtain ⟨x0, x1, x2, x3, x4, x5, xl⟩ := box6 (Hx.out _ (Below.refl _ _))
 rcases Classical.em (lvlZ e.op < least) with hc | hc
 ·have hdc : decide (lvlZ e.op < least) = true := by simp [hc]
  have Hop2 := Lhd (Hop.out.trans (if_pos hc))
  clear Hop hc
  go_enter Tryz.func176, Tryz.ntmps176
  go_upto_region 1 with (fail)
  rw [← Hw1.out]
  go_wp2_with (first | (go_at_call 174; refine (Hsg.out _).mono ?_; rintro x w2 ⟨rfl, hb2⟩; obtain ⟨y0, y1, y2, y3, y4, y5, yl⟩ := box6 (Hx.out _ hb2)) | (go_at_call 139; refine (Hee.out _ hb2).mono ?_; rintro x w3 ⟨rfl, hb3⟩))
  go_ret
  rw [Hop2.out]
  exact ⟨ret_str (by apply Array.ext'; simp [ByteArray.data_append, HT.out]), Hb1.out.trans ((hb2.mono Hb1.out.size).trans (hb3.mono (Nat.le_trans Hb1.out.size hb2.size)))⟩
 ·have hdc : decide (lvlZ e.op < least) = false := by simp [hc]
  have Hop2 := Lhd (Hop.out.trans (if_neg hc))
  clear Hop hc
  go_enter Tryz.func176, Tryz.ntmps176
  go_upto_region 1 with (fail)
  rw [← Hw1.out]
  go_wp2_with (first | (go_at_call 174; refine (Hsg.out _).mono ?_; rintro x w2 ⟨rfl, hb2⟩; obtain ⟨y0, y1, y2, y3, y4, y5, yl⟩ := box6 (Hx.out _ hb2)) | (go_at_call 139; refine (Hee.out _ hb2).mono ?_; rintro x w3 ⟨rfl, hb3⟩))
  go_ret
  rw [Hop2.out]
  exact ⟨ret_str (by apply Array.ext'; simp [HT.out]), Hb1.out.trans ((hb2.mono Hb1.out.size).trans (hb3.mono (Nat.le_trans Hb1.out.size hb2.size)))⟩
theorem rrows_any (F : Nat → Prop) (d : Nat) (hE : RefC F d) (e : Ex) (row : List Value) (name src : ByteArray) (w : World) (hx : ExAt F d w row e) (hb : builtE d e = true) (hlen : (txtE d e).length ≤ 1000000000) (hn : name.size ≤ 1000000) (hs : src.size ≤ 1000000) :
  Calls Tryz.prog 138 #[.string name, .string src, .agg row.toArray] w fun e' w' => e' = .returned (.string ⟨(rowsT name src e.op e.n (txtE d e)).toArray⟩) ∧ Below w.heap.size w w' := by
 obtain ⟨A, m, c, hrow⟩ := ex_row hx
 obtain ⟨w1, Hw1⟩ : ∃ w1, Hid (w1 = w.alloc (.cells row.toArray 32)) := ⟨_, rfl⟩
 have hb1 : Below w.heap.size w w1 := by rw [Hw1.out]; exact (Below.refl _ _).alloc (Nat.le_refl _) _
 have hk1 : IsBlk w1 w.heap.size 32 row.toArray := by rw [Hw1.out]; exact IsBlk.laid _ _ _
 have Hee := Lhd (hE e row w1 (hx.below hb1) hb hlen)
 obtain ⟨T, hT⟩ : ∃ T : ByteArray, (⟨(txtE d e).toArray⟩ : ByteArray) = T := ⟨_, rfl⟩
 have hTs : T.size = (txtE d e).length := by rw [← hT]; show (txtE d e).toArray.size = _; simp
 have HT := Lhd (show T.data.toList = txtE d e from by rw [← hT])
 have n1 : ¬ 9223372036854775807 < name.size + 4 := by omega
 have n2 : ¬ 9223372036854775807 < name.size + 4 + src.size := by omega
 have n3 : ¬ 9223372036854775807 < name.size + 4 + src.size + 7 := by omega
 have n4 : ¬ 9223372036854775807 < name.size + 4 + src.size + 7 + T.size := by omega
 rw [hT] at Hee
 subst hrow
 have Hb1 := Lhd hb1
 obtain ⟨x0, x1, x2, x3, x4, x5, xl⟩ := box6 hk1
 clear hE hx hb hk1 hb1 hT hTs hlen
 have hq : rowsT name src e.op e.n (txtE d e) = name.data.toList ++ [32, 105, 110, 32] ++ src.data.toList ++ (if e.op = 3 ∧ e.n = 1 then [] else [32, 119, 104, 101, 114, 101, 32] ++ txtE d e) := rfl
 generalize rowsT name src e.op e.n (txtE d e) = fin at *
 have Hq := Lhd hq
 clear hq
 rcases Classical.em (e.op = 3) with h3 | h3
 ·have q3 : (e.op == 3) = true := by simp [h3]
  rcases Classical.em (e.n = 1) with h1 | h1
  ·have q1 : (e.n == 1) = true := by simp [h1]
   have Hq2 := Lhd (by have h := Hq.out; rw [if_pos ⟨h3, h1⟩] at h; exact h)
   clear Hq h3 h1
   go_enter Tryz.func138, Tryz.ntmps138
   go_upto_region 1 with (fail)
   rw [← Hw1.out]
   go_wp2
   go_ret
   rw [Hq2.out]
   exact ⟨ret_str (by simp [ByteArray.data_append]), Hb1.out⟩
  ·have q1 : (e.n == 1) = false := by simp [h1]
   have Hq2 := Lhd (by have h := Hq.out; rw [if_neg (fun x => h1 x.2)] at h; exact h)
   clear Hq h3 h1
   go_enter Tryz.func138, Tryz.ntmps138
   go_upto_region 1 with (fail)
   rw [← Hw1.out]
   go_wp2_with (go_at_call 139; refine Hee.out.mono ?_; rintro x w3 ⟨rfl, hb3⟩)
   go_ret
   rw [Hq2.out]
   exact ⟨ret_str (by apply Array.ext'; simp [ByteArray.data_append, HT.out]), Hb1.out.trans (hb3.mono Hb1.out.size)⟩
 ·have q3 : (e.op == 3) = false := by simp [h3]
  have Hq2 := Lhd (by have h := Hq.out; rw [if_neg (fun x => h3 x.1)] at h; exact h)
  clear Hq h3
  go_enter Tryz.func138, Tryz.ntmps138
  go_upto_region 1 with (fail)
  rw [← Hw1.out]
  go_wp2_with (go_at_call 139; refine Hee.out.mono ?_; rintro x w3 ⟨rfl, hb3⟩)
  go_ret
  rw [Hq2.out]
  exact ⟨ret_str (by apply Array.ext'; simp [ByteArray.data_append, HT.out]), Hb1.out.trans (hb3.mono Hb1.out.size)⟩
theorem refBool_any (b : Bool) (w : World) : Calls Tryz.prog 175 #[.agg #[.int .i64 3, .int .i64 (if b then 1 else 0), .string ⟨#[]⟩]] w fun e w' => e = .returned (.string ⟨(if b then trueL else falseL).toArray⟩) ∧ Below w.heap.size w w' := by
 cases b
 all_goals
  go_enter Tryz.func175, Tryz.ntmps175
  go_wp2
  go_ret
  exact ⟨rfl, (Below.refl _ _).alloc (Nat.le_refl _) _⟩
theorem dbl_take {l : List UInt8} {k : Nat} (h : k < l.length) : dbl (l.take (k + 1)) = dbl (l.take k) ++ (if l[k]'h = 39 then [39, 39] else [l[k]'h]) := by
 unfold dbl
 rw [List.take_succ_eq_append_getElem h, List.flatMap_append, List.flatMap_cons, List.flatMap_nil, List.append_nil]
theorem cut_one (s : ByteArray) (k : Nat) (h : k < s.size) : (s.extract k (k + 1)).data.toList = [s.data.toList[k]'h] := by
 have e : (s.extract k (k + 1)).data = s.data.extract k (k + 1) := by simp [ByteArray.data_extract]
 rw [e]
 apply List.ext_getElem?
 intro i
 rcases i with _ | i
 ·have hk : k < s.data.size := h
  simp
 ·simp
  omega
theorem refText_any (s : ByteArray) (w : World) (hs : s.size ≤ 1000000) : Calls Tryz.prog 175 #[.agg #[.int .i64 2, .int .i64 0, .string s]] w fun e w' => e = .returned (.string ⟨(quoteS s).toArray⟩) ∧ Below w.heap.size w w' := by
 have hx : IsBlk (w.alloc (.cells #[.int .i64 2, .int .i64 0, .string s] 116)) w.heap.size 116 #[.int .i64 2, .int .i64 0, .string s] := IsBlk.laid _ _ _
 obtain ⟨w1, Hw1⟩ : ∃ w1, Hid (w1 = w.alloc (.cells #[.int .i64 2, .int .i64 0, .string s] 116)) := ⟨_, rfl⟩
 rw [← Hw1.out] at hx
 have Hb1 : Hid (Below w.heap.size w w1) := Lhd (by rw [Hw1.out]; exact (Below.refl _ _).alloc (Nat.le_refl _) _)
 obtain ⟨x0, x1, x2, xl⟩ := valBox hx
 clear hx
 go_enter Tryz.func175, Tryz.ntmps175
 go_upto_region 1 with (fail)
 rw [← Hw1.out]
 go_wp2
 go_loopw [3, 4] (fun q i wr => ∃ (k : Nat) (S : ByteArray), k ≤ s.size ∧ i = .int .i64 k ∧ q = .string S ∧ Hid (S.data.toList = [39] ++ dbl (s.data.toList.take k)) ∧ S.size ≤ 2 * k + 1 ∧ wr = w1) (fun _ i _ => s.size - (intOf i).toNat)
 case atStart => exact ⟨0, ⟨#[39]⟩, Nat.zero_le _, rfl, rfl, Lhd (by simp [dbl]), by decide, rfl⟩
 case round =>
  obtain ⟨k, S, hk, rfl, rfl, HS, hS, rfl⟩ := hrel
  have n1 : ¬ 9223372036854775807 < S.size + (min (k + 1) s.size - k) := by omega
  have n2 : ¬ 9223372036854775807 < S.size + (min (k + 1) s.size - k) + 1 := by omega
  have n3 : ¬ 9223372036854775807 < S.size + 1 := by omega
  rcases Nat.lt_or_ge k s.size with hlt | hge
  ·have Hd := Lhd (dbl_take (l := s.data.toList) (k := k) hlt)
   have Hc := Lhd (cut_one s k hlt)
   have hg : s[k]'hlt = s.data.toList[k]'hlt := rfl
   rcases Classical.em (s.data.toList[k]'hlt = 39) with h9 | h9
   ·have q9 : (((s[k]'hlt).toNat : Int) == 39) = true := by rw [hg, h9]; rfl
    have H9 := Lhd h9
    clear h9 hg
    go_wp2
    go_roundw
    case rel =>
     refine ⟨k + 1, _, by omega, by go_num, rfl, Lhd ?_, by have e1 : (⟨#[39]⟩ : ByteArray).size = 1 := rfl; simp; omega, trivial⟩
     rw [Hd.out, if_pos H9.out]
     have hc := Hc.out
     generalize s.extract k (k + 1) = x at hc ⊢
     simp [ByteArray.data_append, HS.out, hc, H9.out]
    case measure => simp [intOf]; omega
   ·have q9 : (((s[k]'hlt).toNat : Int) == 39) = false := by
     rw [hg]
     simp only [beq_eq_false_iff_ne, ne_eq]
     intro h
     exact h9 (UInt8.toNat_inj.1 (by show _ = (39 : Nat); omega))
    have H9 := Lhd h9
    clear h9 hg
    go_wp2
    go_roundw
    case rel =>
     refine ⟨k + 1, _, by omega, by go_num, rfl, Lhd ?_, by have e1 : (⟨#[39]⟩ : ByteArray).size = 1 := rfl; simp; omega, trivial⟩
     rw [Hd.out, if_neg H9.out]
     have hc := Hc.out
     generalize s.extract k (k + 1) = x at hc ⊢
     simp [ByteArray.data_append, HS.out, hc]
    case measure => simp [intOf]; omega
  ·obtain rfl : k = s.size := Nat.le_antisymm hk hge
   go_wp2
   go_ret
   refine ⟨ret_str ?_, Hb1.out⟩
   have e : s.data.toList.take s.size = s.data.toList := List.take_of_length_le (Nat.le_refl _)
   have h := HS.out
   rw [e] at h
   apply Array.ext'
   rw [show (S ++ ⟨#[39]⟩ : ByteArray).data.toList = S.data.toList ++ [39] from by simp [ByteArray.data_append], h]
   simp [quoteS]
end Go.Proofs.YtmgldjpdhpopnaaGreatDoor
