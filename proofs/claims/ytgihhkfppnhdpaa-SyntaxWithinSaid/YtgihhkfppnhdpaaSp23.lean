/- Parts of this proof, one behind the other: RefZ, RefL, SynZ2, RefB. -/
import Derived.Test.YtgihhkfppnhdpaaSp22
import Derived.Deep.DeepCutAuto
import Derived.Outline
import Derived.Test.YtgihhkfppnhdpaaSp19
import Derived.Test.YtgihhkfppnhdpaaSp11
import Derived.Test.YtgihhkfppnhdpaaSp16
namespace Go.Proofs.Ytgihhkfppnhdpaa
open Go.RowKit Go.Afx

theorem builtS_parts {d : Nat} {x : St} (h : builtS (d + 1) x = true) : (∀ e ∈ x.exprs, builtE d e = true) ∧ (∀ y ∈ x.body, builtS d y = true) ∧ (∀ y ∈ x.els, builtS d y = true) := by
  rw [builtS] at h
  simp only [Bool.and_eq_true, List.all_eq_true] at h
  exact ⟨h.1.1.2, h.1.2, h.2⟩
def NamesIn (w : World) (m : Nat) (out : List ByteArray) (xs : List St) (f : St → List ByteArray) (u0 i : Value) (wr : World) : Prop :=
  ∃ (k : Nat) (A : Option Addr) (n c : Nat) (l' : List ByteArray), k ≤ m ∧ i = .int .i64 k ∧ u0 = .slice A n c ∧ NamesAt wr A n c l' ∧ l' = putsB out ((xs.take k).flatMap f) ∧ Below w.heap.size w wr
def BoolIn (b : Bool) (w : World) (u : Value) (W : World) : Prop := u = .bool b ∧ w = W
theorem stBoxU {w : World} {g : Nat} {T : TypeId} {v0 v1 v2 v3 v4 v5 v6 v7 : Value} (h : IsBlk w g T #[v0, v1, v2, v3, v4, v5, v6, v7]) :
    w.cell? ⟨g, 0, none⟩ = some v0 ∧ w.cell? ⟨g, 2, none⟩ = some v2 ∧ w.cell? ⟨g, 5, none⟩ = some v5 ∧ w.cell? ⟨g, 6, none⟩ = some v6 ∧ w.cell? ⟨g, 7, none⟩ = some v7 ∧ g < w.heap.size := by
  have h0 := h.cell 0; have h2 := h.cell 2; have h5 := h.cell 5; have h6 := h.cell 6; have h7 := h.cell 7
  simp at h0 h2 h5 h6 h7
  exact ⟨h0, h2, h5, h6, h7, h.lt⟩

def RUses0 (F : Nat → Prop) (d : Nat) : Prop := ∀ (A : Option Addr) (n c : Nat) (out : List ByteArray) (A2 : Option Addr) (m c2 : Nat) (xs : List St) (w : World), StsAt F d w A2 m c2 xs → (∀ x ∈ xs, builtS d x = true) → NamesAt w A n c out → out.length + (xs.flatMap (readsS d)).length ≤ 100000 →
  Calls Try.prog 17 #[.slice A n c, .slice A2 m c2, .int .i64 0] w (GivesN w (putsB out (xs.flatMap (readsS d))))
set_option maxRecDepth 100000 in
set_option maxHeartbeats 4000000 in
theorem ruses0_any (F : Nat → Prop) (d : Nat) : RUses0 F d := by
  induction d with
  | zero =>
    intro A n c out A2 m c2 xs w h _ hn _
    have Hm := Lib.hid (LsAt.len h)
    have h0 : m = 0 := by
      rcases Nat.eq_zero_or_pos m with h0 | h0
      · exact h0
      · obtain ⟨_, _, _, _, _, _, _, _, _, hp, _⟩ := LsAt.get h h0
        exact hp.elim
    have Hn := Lib.hid hn
    clear h hn
    go_enter Try.func17, Try.ntmps17
    go_wp2
    go_loopw [0, 7] (fun u0 i wr => u0 = .slice A n c ∧ i = .int .i64 0 ∧ w = wr) (fun _ _ _ => 0)
    case atStart => exact ⟨rfl, rfl, rfl⟩
    case round =>
      obtain ⟨rfl, rfl, rfl⟩ := hrel
      have hlt : decide ((0 : Int) < (m : Int)) = false := by simp; omega
      go_wp2
      go_ret
      have hx : xs = [] := List.eq_nil_of_length_eq_zero (by rw [Hm.out]; exact h0)
      subst hx
      exact ⟨A, n, c, rfl, Hn.out, Below.refl _ _⟩
  | succ d ih =>
    intro A n c out A2 m c2 xs w h hb hn hbig
    have Hb := Lib.hid hb
    have hm := LsAt.n_le h
    have Hm := Lib.hid (LsAt.len h)
    have Hn := Lib.hid hn
    have Hx := Lib.hid (fun W (hW : Below w.heap.size w W) => StsAt.below h hW)
    clear hb hn h
    go_enter Try.func17, Try.ntmps17
    go_wp2
    go_loopw [0, 7] (fun u0 i wr => NamesIn w m out xs (readsS (d + 1)) u0 i wr) (fun _ i _ => m - (intOf i).toNat)
    case atStart => exact ⟨0, _, _, _, _, Nat.zero_le _, rfl, rfl, Hn.out, rfl, Below.refl _ _⟩
    case round =>
      generalize wr = w1 at *
      obtain ⟨k, A4, n4, c4, l', hk, rfl, rfl, hn4, hl', hB⟩ := hrel
      have Hl' := Lib.hid hl'
      have hn4l := hn4.len
      have HN4 := Lib.hid hn4
      have HB := Lib.hid hB
      clear hl' hn4 hB
      by_cases hlt : k < m
      rotate_left
      · go_wp2
        go_ret
        refine ⟨A4, n4, c4, rfl, ?_, HB.out⟩
        have h := Hl'.out
        rw [List.take_of_length_le (by rw [Hm.out]; omega)] at h
        rw [← h]
        exact HN4.out
      obtain ⟨b, o, x, Ac2, nc2, cc2, Ae2, ne2, ce2, Ab2, nb2, cb2, Al2, nl2, cl2, rfl, hbl, hx, hc0, hc1, hc2, hc3, hc4, hc5, hc6, hc7, hp, o1, o2, o3, o4, hcl, hel, hbl2, hll⟩ := StsAt.get (Hx.out w1 HB.out) hlt
      have Hxk := Lib.hid hx
      obtain ⟨bE, bB, bL⟩ := builtS_parts (Hb.out x (List.mem_of_getElem? hx))
      have HbE := Lib.hid bE
      have HbB := Lib.hid bB
      have HbL := Lib.hid bL
      have hne := LsAt.n_le hel
      have Hne := Lib.hid (LsAt.len hel)
      obtain ⟨L0, HL0⟩ : ∃ L0, Hid ((if x.op = 4 ∨ x.op = 5 ∨ x.op = 6 then [x.src] else []) = L0) := ⟨_, rfl⟩
      have Hfin : Hid (readsS (d + 1) x = L0 ++ x.exprs.flatMap (srcsE d) ++ x.body.flatMap (readsS d) ++ x.els.flatMap (readsS d)) := Lib.hid (by rw [readsS, HL0.out])
      have t1 := flat_le (f := readsS (d + 1)) hx
      have t2 := putsB_len ((xs.take k).flatMap (readsS (d + 1))) out
      rw [← Hl'.out] at t2
      rw [Hfin.out, List.length_append, List.length_append, List.length_append] at t1
      have Hst := Lib.hid (flat_take (f := readsS (d + 1)) hx)
      obtain ⟨w2, Hw2⟩ : ∃ w2, Hid (w2 = w1.alloc (.cells #[.int .i64 x.op, .string x.name, .string x.src, .int .i64 x.n, .slice Ac2 nc2 cc2, .slice Ae2 ne2 ce2, .slice Ab2 nb2 cb2, .slice Al2 nl2 cl2] 52)) := ⟨_, rfl⟩
      have hb2 : Below w1.heap.size w1 w2 := by rw [Hw2.out]; exact (Below.refl _ _).alloc (Nat.le_refl _) _
      have hx2 : IsBlk w2 w1.heap.size 52 #[.int .i64 x.op, .string x.name, .string x.src, .int .i64 x.n, .slice Ac2 nc2 cc2, .slice Ae2 ne2 ce2, .slice Ab2 nb2 cb2, .slice Al2 nl2 cl2] := by rw [Hw2.out]; exact IsBlk.laid _ _ _
      have HX := Lib.hid (fun W (hW : Below w2.heap.size w2 W) => stBoxU (hx2.as_was (hW.block _ hx2.lt)))
      have HE := Lib.hid (fun W (hW : Below w2.heap.size w2 W) => ExsAt.below (ExsAt.below hel hb2) hW)
      have HBo := Lib.hid (fun W (hW : Below w2.heap.size w2 W) => StsAt.below (StsAt.below hbl2 hb2) hW)
      have HLo := Lib.hid (fun W (hW : Below w2.heap.size w2 W) => StsAt.below (StsAt.below hll hb2) hW)
      have hN2 := HN4.out.below hb2
      have HN2 := Lib.hid hN2
      have HB2 := Lib.hid hb2
      obtain ⟨i0, i2, i5, i6, i7, il⟩ := stBoxU hx2
      clear hx bE bB bL hel hbl2 hll hcl hp hx2 hN2 hb2
      go_upto_region 5 with (fail)
      rw [← Hw2.out]
      obtain ⟨bb, Hbb⟩ : ∃ bb, Hid (decide (x.op = 4 ∨ x.op = 5 ∨ x.op = 6) = bb) := ⟨_, rfl⟩
      go_cut [54] (fun u W => BoolIn bb w2 u W)
      case first =>
        by_cases h4 : 4 ≤ x.op
        · by_cases h6 : x.op ≤ 6
          · have hbt : bb = true := by rw [← Hbb.out, decide_eq_true_iff]; omega
            subst hbt
            go_wp2
            go_meet
            exact ⟨rfl, rfl⟩
          · have hbt : bb = false := by rw [← Hbb.out, decide_eq_false_iff_not]; omega
            subst hbt
            have h6' : ¬ (x.op ≤ 6) := h6
            go_wp2
            go_meet
            exact ⟨rfl, rfl⟩
        · have hbt : bb = false := by rw [← Hbb.out, decide_eq_false_iff_not]; omega
          subst hbt
          go_wp2
          go_meet
          exact ⟨rfl, rfl⟩
      case rest =>
        obtain ⟨rfl, rfl⟩ := hcut
        have hL0 : L0 = if bb then [x.src] else [] := by
          rw [← HL0.out, ← Hbb.out]
          by_cases hc : x.op = 4 ∨ x.op = 5 ∨ x.op = 6
          · rw [if_pos hc, decide_eq_true hc]; rfl
          · rw [if_neg hc, decide_eq_false hc]; rfl
        go_upto_if 54 with (fail)
        go_cut [0] (fun u W => GivesN w2 (putsB l' L0) (.returned u) W)
        case first =>
          have hL1 := Lib.hid hL0
          cases bb
          · go_wp2
            go_meet
            rw [hL1.out]
            exact ⟨_, _, _, rfl, HN2.out, Below.refl _ _⟩
          · have Hp := Lib.hid (put_any A4 n4 c4 l' x.src w2 HN2.out (by omega))
            go_wp2_with (go_at_call 15; refine Hp.out.mono ?_; rintro y w3 ⟨A3, n3, c3, rfl, hn3, hb3⟩)
            go_meet
            rw [hL1.out]
            exact ⟨_, _, _, rfl, hn3, hb3⟩
        case rest =>
          obtain ⟨A3, n3, c3, he, hn3, hb3⟩ := hcut
          injection he with he
          subst he
          generalize wc = w3 at *
          have hn3l := hn3.len
          have t3 := putsB_len L0 l'
          have HN3 := Lib.hid hn3
          have HB3 := Lib.hid hb3
          clear hn3 hL0
          obtain ⟨l3, Hl3⟩ : ∃ l3, Hid (putsB l' L0 = l3) := ⟨_, rfl⟩
          rw [Hl3.out] at HN3 hn3l t3
          obtain ⟨j0, j2, j5, j6, j7, jl⟩ := HX.out _ hb3
          clear hb3
          go_wp2
          go_loopw [0, 9] (fun u0 i wr => SrcsIn w3 ne2 l3 x.exprs d u0 i wr) (fun _ i _ => ne2 - (intOf i).toNat)
          case atStart => exact ⟨0, _, _, _, _, Nat.zero_le _, rfl, rfl, HN3.out, rfl, Below.refl _ _⟩
          case round =>
            obtain ⟨k2, A5, n5, c5, l5, hk2, rfl, rfl, hn5, hl5, hB5⟩ := hrel
            have Hl5 := Lib.hid hl5
            have h25 := HB3.out.trans (hB5.mono HB3.out.size)
            obtain ⟨g0, g2, g5, g6, g7, gl⟩ := HX.out wr h25
            have hn5l := hn5.len
            have HN5 := Lib.hid hn5
            have t5 := putsB_len ((x.exprs.take k2).flatMap (srcsE d)) l3
            rw [← Hl5.out] at t5
            clear hl5 hn5
            by_cases hlt2 : k2 < ne2
            · cases d with
              | zero =>
                obtain ⟨b3, o3, r3, e3, hA3, hbl3, _, he3, hl3, hp3, hc3⟩ := LsAt.get (HE.out wr h25) hlt2
                exact hp3.elim
              | succ d =>
                obtain ⟨b3, o3, y, A6, m6, c6, rfl, hbl3, hy, hd0, hd1, hd2, hd3, hd4, hd5, hpy, _⟩ := ExsAt.get (HE.out wr h25) hlt2
                have Hy := Lib.hid hy
                have t6 := flat_le (f := srcsE (d + 1)) hy
                have Hc := Lib.hid (rsrcs_any F (d + 1) A5 n5 c5 l5 y _ wr hpy (HbE.out y (List.mem_of_getElem? hy)) HN5.out (by omega))
                have Hst2 := Lib.hid (flat_take (f := srcsE (d + 1)) hy)
                clear hy t6
                go_wp2_with (go_at_call 39; refine Hc.out.mono ?_; rintro y w5 ⟨A7, n7, c7, rfl, hn7, hb7⟩)
                go_roundw
                case rel => exact ⟨k2 + 1, A7, n7, c7, _, by omega, by go_num, rfl, hn7, by rw [Hst2.out, putsB_append, ← Hl5.out], hB5.trans (hb7.mono hB5.size)⟩
                case measure => simp [intOf]; omega
            · have h7 := Hl5.out
              rw [List.take_of_length_le (by rw [Hne.out]; omega)] at h7
              have t7 := putsB_len (x.exprs.flatMap (srcsE d)) l3
              rw [← h7] at t7
              have H7 := Lib.hid h7
              clear h7
              have Hc1 := Lib.hid (ih A5 n5 c5 l5 Ab2 nb2 cb2 x.body wr (HBo.out _ h25) HbB.out HN5.out (by omega))
              have t8 := putsB_len (x.body.flatMap (readsS d)) l5
              have hbase := h25
              go_wp2_with (first
                | (go_at_call 17; (with_reducible refine Hc1.out.mono ?_); rintro y w8 ⟨A8, n8, c8, rfl, hn8, hb8⟩; have hb28 := hbase.trans (hb8.mono hbase.size); obtain ⟨p0, p2, p5, p6, p7, pl⟩ := HX.out w8 hb28; have Hc2 := Lib.hid (ih A8 n8 c8 _ Al2 nl2 cl2 x.els w8 (HLo.out _ hb28) HbL.out hn8 (by omega)))
                | (go_at_call 17; (with_reducible refine Hc2.out.mono ?_); rintro y w9 ⟨A9, n9, c9, rfl, hn9, hb9⟩))
              go_roundw
              case rel => exact ⟨k + 1, A9, n9, c9, _, by omega, by go_num, rfl, hn9, by rw [Hst.out, putsB_append, ← Hl'.out]; rw [Hfin.out, putsB_append, putsB_append, putsB_append, Hl3.out, ← H7.out], HB.out.trans ((HB2.out.trans ((hb28.trans (hb9.mono hb28.size)).mono HB2.out.size)).mono HB.out.size)⟩
              case measure => simp [intOf]; omega

def RUses1 (F : Nat → Prop) (d : Nat) : Prop := ∀ (A : Option Addr) (n c : Nat) (out : List ByteArray) (A2 : Option Addr) (m c2 : Nat) (xs : List St) (w : World), StsAt F d w A2 m c2 xs → (∀ x ∈ xs, builtS d x = true) → NamesAt w A n c out → out.length + (xs.flatMap (writesS d)).length ≤ 100000 →
  Calls Try.prog 17 #[.slice A n c, .slice A2 m c2, .int .i64 1] w (GivesN w (putsB out (xs.flatMap (writesS d))))
set_option maxRecDepth 100000 in
set_option maxHeartbeats 4000000 in
theorem ruses1_any (F : Nat → Prop) (d : Nat) : RUses1 F d := by
  induction d with
  | zero =>
    intro A n c out A2 m c2 xs w h _ hn _
    have Hm := Lib.hid (LsAt.len h)
    have h0 : m = 0 := by
      rcases Nat.eq_zero_or_pos m with h0 | h0
      · exact h0
      · obtain ⟨_, _, _, _, _, _, _, _, _, hp, _⟩ := LsAt.get h h0
        exact hp.elim
    have Hn := Lib.hid hn
    clear h hn
    go_enter Try.func17, Try.ntmps17
    go_wp2
    go_loopw [0, 7] (fun u0 i wr => u0 = .slice A n c ∧ i = .int .i64 0 ∧ w = wr) (fun _ _ _ => 0)
    case atStart => exact ⟨rfl, rfl, rfl⟩
    case round =>
      obtain ⟨rfl, rfl, rfl⟩ := hrel
      have hlt : decide ((0 : Int) < (m : Int)) = false := by simp; omega
      go_wp2
      go_ret
      have hx : xs = [] := List.eq_nil_of_length_eq_zero (by rw [Hm.out]; exact h0)
      subst hx
      exact ⟨A, n, c, rfl, Hn.out, Below.refl _ _⟩
  | succ d ih =>
    intro A n c out A2 m c2 xs w h hb hn hbig
    have Hb := Lib.hid hb
    have hm := LsAt.n_le h
    have Hm := Lib.hid (LsAt.len h)
    have Hn := Lib.hid hn
    have Hx := Lib.hid (fun W (hW : Below w.heap.size w W) => StsAt.below h hW)
    clear hb hn h
    go_enter Try.func17, Try.ntmps17
    go_wp2
    go_loopw [0, 7] (fun u0 i wr => NamesIn w m out xs (writesS (d + 1)) u0 i wr) (fun _ i _ => m - (intOf i).toNat)
    case atStart => exact ⟨0, _, _, _, _, Nat.zero_le _, rfl, rfl, Hn.out, rfl, Below.refl _ _⟩
    case round =>
      generalize wr = w1 at *
      obtain ⟨k, A4, n4, c4, l', hk, rfl, rfl, hn4, hl', hB⟩ := hrel
      have Hl' := Lib.hid hl'
      have hn4l := hn4.len
      have HN4 := Lib.hid hn4
      have HB := Lib.hid hB
      clear hl' hn4 hB
      by_cases hlt : k < m
      rotate_left
      · go_wp2
        go_ret
        refine ⟨A4, n4, c4, rfl, ?_, HB.out⟩
        have h := Hl'.out
        rw [List.take_of_length_le (by rw [Hm.out]; omega)] at h
        rw [← h]
        exact HN4.out
      obtain ⟨b, o, x, Ac2, nc2, cc2, Ae2, ne2, ce2, Ab2, nb2, cb2, Al2, nl2, cl2, rfl, hbl, hx, hc0, hc1, hc2, hc3, hc4, hc5, hc6, hc7, hp, o1, o2, o3, o4, hcl, hel, hbl2, hll⟩ := StsAt.get (Hx.out w1 HB.out) hlt
      have Hxk := Lib.hid hx
      obtain ⟨bE, bB, bL⟩ := builtS_parts (Hb.out x (List.mem_of_getElem? hx))
      have HbE := Lib.hid bE
      have HbB := Lib.hid bB
      have HbL := Lib.hid bL
      have hne := LsAt.n_le hel
      have Hne := Lib.hid (LsAt.len hel)
      obtain ⟨L0, HL0⟩ : ∃ L0, Hid ((if x.op = 3 ∨ x.op = 4 ∨ x.op = 5 then [x.src] else []) = L0) := ⟨_, rfl⟩
      have Hfin : Hid (writesS (d + 1) x = L0 ++ ([] : List ByteArray) ++ x.body.flatMap (writesS d) ++ x.els.flatMap (writesS d)) := Lib.hid (by rw [writesS, HL0.out]; simp)
      have t1 := flat_le (f := writesS (d + 1)) hx
      have t2 := putsB_len ((xs.take k).flatMap (writesS (d + 1))) out
      rw [← Hl'.out] at t2
      rw [Hfin.out, List.length_append, List.length_append, List.length_append] at t1
      have Hst := Lib.hid (flat_take (f := writesS (d + 1)) hx)
      obtain ⟨w2, Hw2⟩ : ∃ w2, Hid (w2 = w1.alloc (.cells #[.int .i64 x.op, .string x.name, .string x.src, .int .i64 x.n, .slice Ac2 nc2 cc2, .slice Ae2 ne2 ce2, .slice Ab2 nb2 cb2, .slice Al2 nl2 cl2] 52)) := ⟨_, rfl⟩
      have hb2 : Below w1.heap.size w1 w2 := by rw [Hw2.out]; exact (Below.refl _ _).alloc (Nat.le_refl _) _
      have hx2 : IsBlk w2 w1.heap.size 52 #[.int .i64 x.op, .string x.name, .string x.src, .int .i64 x.n, .slice Ac2 nc2 cc2, .slice Ae2 ne2 ce2, .slice Ab2 nb2 cb2, .slice Al2 nl2 cl2] := by rw [Hw2.out]; exact IsBlk.laid _ _ _
      have HX := Lib.hid (fun W (hW : Below w2.heap.size w2 W) => stBoxU (hx2.as_was (hW.block _ hx2.lt)))
      have HE := Lib.hid (fun W (hW : Below w2.heap.size w2 W) => ExsAt.below (ExsAt.below hel hb2) hW)
      have HBo := Lib.hid (fun W (hW : Below w2.heap.size w2 W) => StsAt.below (StsAt.below hbl2 hb2) hW)
      have HLo := Lib.hid (fun W (hW : Below w2.heap.size w2 W) => StsAt.below (StsAt.below hll hb2) hW)
      have hN2 := HN4.out.below hb2
      have HN2 := Lib.hid hN2
      have HB2 := Lib.hid hb2
      obtain ⟨i0, i2, i5, i6, i7, il⟩ := stBoxU hx2
      clear hx bE bB bL hel hbl2 hll hcl hp hx2 hN2 hb2
      go_upto_region 5 with (fail)
      rw [← Hw2.out]
      obtain ⟨bb, Hbb⟩ : ∃ bb, Hid (decide (x.op = 3 ∨ x.op = 4 ∨ x.op = 5) = bb) := ⟨_, rfl⟩
      go_cut [54] (fun u W => BoolIn bb w2 u W)
      case first =>
        by_cases h4 : 3 ≤ x.op
        · by_cases h6 : x.op ≤ 5
          · have hbt : bb = true := by rw [← Hbb.out, decide_eq_true_iff]; omega
            subst hbt
            go_wp2
            go_meet
            exact ⟨rfl, rfl⟩
          · have hbt : bb = false := by rw [← Hbb.out, decide_eq_false_iff_not]; omega
            subst hbt
            have h6' : ¬ (x.op ≤ 5) := h6
            go_wp2
            go_meet
            exact ⟨rfl, rfl⟩
        · have hbt : bb = false := by rw [← Hbb.out, decide_eq_false_iff_not]; omega
          subst hbt
          go_wp2
          go_meet
          exact ⟨rfl, rfl⟩
      case rest =>
        obtain ⟨rfl, rfl⟩ := hcut
        have hL0 : L0 = if bb then [x.src] else [] := by
          rw [← HL0.out, ← Hbb.out]
          by_cases hc : x.op = 3 ∨ x.op = 4 ∨ x.op = 5
          · rw [if_pos hc, decide_eq_true hc]; rfl
          · rw [if_neg hc, decide_eq_false hc]; rfl
        go_upto_if 54 with (fail)
        go_cut [0] (fun u W => GivesN w2 (putsB l' L0) (.returned u) W)
        case first =>
          have hL1 := Lib.hid hL0
          cases bb
          · go_wp2
            go_meet
            rw [hL1.out]
            exact ⟨_, _, _, rfl, HN2.out, Below.refl _ _⟩
          · have Hp := Lib.hid (put_any A4 n4 c4 l' x.src w2 HN2.out (by omega))
            go_wp2_with (go_at_call 15; refine Hp.out.mono ?_; rintro y w3 ⟨A3, n3, c3, rfl, hn3, hb3⟩)
            go_meet
            rw [hL1.out]
            exact ⟨_, _, _, rfl, hn3, hb3⟩
        case rest =>
          obtain ⟨A3, n3, c3, he, hn3, hb3⟩ := hcut
          injection he with he
          subst he
          generalize wc = w3 at *
          have hn3l := hn3.len
          have t3 := putsB_len L0 l'
          have HN3 := Lib.hid hn3
          have HB3 := Lib.hid hb3
          clear hn3 hL0
          obtain ⟨l3, Hl3⟩ : ∃ l3, Hid (putsB l' L0 = l3) := ⟨_, rfl⟩
          rw [Hl3.out] at HN3 hn3l t3
          obtain ⟨j0, j2, j5, j6, j7, jl⟩ := HX.out _ hb3
          clear hb3
          go_wp2
          go_loopw [0, 9] (fun u0 i wr => u0 = .slice A3 n3 c3 ∧ i = .int .i64 0 ∧ w3 = wr) (fun _ _ _ => 0)
          case atStart => exact ⟨rfl, rfl, rfl⟩
          case round =>
            obtain ⟨rfl, rfl, rfl⟩ := hrel
            have Hc1 := Lib.hid (ih A3 n3 c3 l3 Ab2 nb2 cb2 x.body w3 (HBo.out _ HB3.out) HbB.out HN3.out (by omega))
            have t8 := putsB_len (x.body.flatMap (writesS d)) l3
            have hbase := HB3.out
            go_wp2_with (first
              | (go_at_call 17; (with_reducible refine Hc1.out.mono ?_); rintro y w8 ⟨A8, n8, c8, rfl, hn8, hb8⟩; have hb28 := hbase.trans (hb8.mono hbase.size); obtain ⟨p0, p2, p5, p6, p7, pl⟩ := HX.out w8 hb28; have Hc2 := Lib.hid (ih A8 n8 c8 _ Al2 nl2 cl2 x.els w8 (HLo.out _ hb28) HbL.out hn8 (by omega)))
              | (go_at_call 17; (with_reducible refine Hc2.out.mono ?_); rintro y w9 ⟨A9, n9, c9, rfl, hn9, hb9⟩))
            all_goals
              go_roundw
              case rel => exact ⟨k + 1, A9, n9, c9, _, by omega, by go_num, rfl, hn9, by rw [Hst.out, putsB_append, ← Hl'.out]; rw [Hfin.out, List.append_nil, putsB_append, putsB_append, Hl3.out], HB.out.trans ((HB2.out.trans ((hb28.trans (hb9.mono hb28.size)).mono HB2.out.size)).mono HB.out.size)⟩
              case measure => simp [intOf]; omega

def RUses2 (F : Nat → Prop) (d : Nat) : Prop := ∀ (A : Option Addr) (n c : Nat) (out : List ByteArray) (A2 : Option Addr) (m c2 : Nat) (xs : List St) (w : World), StsAt F d w A2 m c2 xs → (∀ x ∈ xs, builtS d x = true) → NamesAt w A n c out → out.length + (xs.flatMap (emitsS d)).length ≤ 100000 →
  Calls Try.prog 17 #[.slice A n c, .slice A2 m c2, .int .i64 2] w (GivesN w (putsB out (xs.flatMap (emitsS d))))
set_option maxRecDepth 100000 in
set_option maxHeartbeats 4000000 in
theorem ruses2_any (F : Nat → Prop) (d : Nat) : RUses2 F d := by
  induction d with
  | zero =>
    intro A n c out A2 m c2 xs w h _ hn _
    have Hm := Lib.hid (LsAt.len h)
    have h0 : m = 0 := by
      rcases Nat.eq_zero_or_pos m with h0 | h0
      · exact h0
      · obtain ⟨_, _, _, _, _, _, _, _, _, hp, _⟩ := LsAt.get h h0
        exact hp.elim
    have Hn := Lib.hid hn
    clear h hn
    go_enter Try.func17, Try.ntmps17
    go_wp2
    go_loopw [0, 7] (fun u0 i wr => u0 = .slice A n c ∧ i = .int .i64 0 ∧ w = wr) (fun _ _ _ => 0)
    case atStart => exact ⟨rfl, rfl, rfl⟩
    case round =>
      obtain ⟨rfl, rfl, rfl⟩ := hrel
      have hlt : decide ((0 : Int) < (m : Int)) = false := by simp; omega
      go_wp2
      go_ret
      have hx : xs = [] := List.eq_nil_of_length_eq_zero (by rw [Hm.out]; exact h0)
      subst hx
      exact ⟨A, n, c, rfl, Hn.out, Below.refl _ _⟩
  | succ d ih =>
    intro A n c out A2 m c2 xs w h hb hn hbig
    have Hb := Lib.hid hb
    have hm := LsAt.n_le h
    have Hm := Lib.hid (LsAt.len h)
    have Hn := Lib.hid hn
    have Hx := Lib.hid (fun W (hW : Below w.heap.size w W) => StsAt.below h hW)
    clear hb hn h
    go_enter Try.func17, Try.ntmps17
    go_wp2
    go_loopw [0, 7] (fun u0 i wr => NamesIn w m out xs (emitsS (d + 1)) u0 i wr) (fun _ i _ => m - (intOf i).toNat)
    case atStart => exact ⟨0, _, _, _, _, Nat.zero_le _, rfl, rfl, Hn.out, rfl, Below.refl _ _⟩
    case round =>
      generalize wr = w1 at *
      obtain ⟨k, A4, n4, c4, l', hk, rfl, rfl, hn4, hl', hB⟩ := hrel
      have Hl' := Lib.hid hl'
      have hn4l := hn4.len
      have HN4 := Lib.hid hn4
      have HB := Lib.hid hB
      clear hl' hn4 hB
      by_cases hlt : k < m
      rotate_left
      · go_wp2
        go_ret
        refine ⟨A4, n4, c4, rfl, ?_, HB.out⟩
        have h := Hl'.out
        rw [List.take_of_length_le (by rw [Hm.out]; omega)] at h
        rw [← h]
        exact HN4.out
      obtain ⟨b, o, x, Ac2, nc2, cc2, Ae2, ne2, ce2, Ab2, nb2, cb2, Al2, nl2, cl2, rfl, hbl, hx, hc0, hc1, hc2, hc3, hc4, hc5, hc6, hc7, hp, o1, o2, o3, o4, hcl, hel, hbl2, hll⟩ := StsAt.get (Hx.out w1 HB.out) hlt
      have Hxk := Lib.hid hx
      obtain ⟨bE, bB, bL⟩ := builtS_parts (Hb.out x (List.mem_of_getElem? hx))
      have HbE := Lib.hid bE
      have HbB := Lib.hid bB
      have HbL := Lib.hid bL
      have hne := LsAt.n_le hel
      have Hne := Lib.hid (LsAt.len hel)
      obtain ⟨L0, HL0⟩ : ∃ L0, Hid ((if x.op = 8 then [x.src] else []) = L0) := ⟨_, rfl⟩
      have Hfin : Hid (emitsS (d + 1) x = L0 ++ ([] : List ByteArray) ++ x.body.flatMap (emitsS d) ++ x.els.flatMap (emitsS d)) := Lib.hid (by rw [emitsS, HL0.out]; simp)
      have t1 := flat_le (f := emitsS (d + 1)) hx
      have t2 := putsB_len ((xs.take k).flatMap (emitsS (d + 1))) out
      rw [← Hl'.out] at t2
      rw [Hfin.out, List.length_append, List.length_append, List.length_append] at t1
      have Hst := Lib.hid (flat_take (f := emitsS (d + 1)) hx)
      obtain ⟨w2, Hw2⟩ : ∃ w2, Hid (w2 = w1.alloc (.cells #[.int .i64 x.op, .string x.name, .string x.src, .int .i64 x.n, .slice Ac2 nc2 cc2, .slice Ae2 ne2 ce2, .slice Ab2 nb2 cb2, .slice Al2 nl2 cl2] 52)) := ⟨_, rfl⟩
      have hb2 : Below w1.heap.size w1 w2 := by rw [Hw2.out]; exact (Below.refl _ _).alloc (Nat.le_refl _) _
      have hx2 : IsBlk w2 w1.heap.size 52 #[.int .i64 x.op, .string x.name, .string x.src, .int .i64 x.n, .slice Ac2 nc2 cc2, .slice Ae2 ne2 ce2, .slice Ab2 nb2 cb2, .slice Al2 nl2 cl2] := by rw [Hw2.out]; exact IsBlk.laid _ _ _
      have HX := Lib.hid (fun W (hW : Below w2.heap.size w2 W) => stBoxU (hx2.as_was (hW.block _ hx2.lt)))
      have HE := Lib.hid (fun W (hW : Below w2.heap.size w2 W) => ExsAt.below (ExsAt.below hel hb2) hW)
      have HBo := Lib.hid (fun W (hW : Below w2.heap.size w2 W) => StsAt.below (StsAt.below hbl2 hb2) hW)
      have HLo := Lib.hid (fun W (hW : Below w2.heap.size w2 W) => StsAt.below (StsAt.below hll hb2) hW)
      have hN2 := HN4.out.below hb2
      have HN2 := Lib.hid hN2
      have HB2 := Lib.hid hb2
      obtain ⟨i0, i2, i5, i6, i7, il⟩ := stBoxU hx2
      clear hx bE bB bL hel hbl2 hll hcl hp hx2 hN2 hb2
      go_upto_region 5 with (fail)
      rw [← Hw2.out]
      obtain ⟨bb, Hbb⟩ : ∃ bb, Hid (decide (x.op = 8) = bb) := ⟨_, rfl⟩
      go_cut [54] (fun u W => BoolIn bb w2 u W)
      case first =>
        by_cases h8 : x.op = 8
        · have hbt : bb = true := by rw [← Hbb.out, decide_eq_true_iff]; exact h8
          have h8' : (x.op == 8) = true := by simpa using h8
          have H8 := Lib.hid h8
          clear h8
          subst hbt
          go_wp2
          go_meet
          exact ⟨rfl, rfl⟩
        · have hbt : bb = false := by rw [← Hbb.out, decide_eq_false_iff_not]; exact h8
          have h8' : (x.op == 8) = false := by simpa using h8
          clear h8
          subst hbt
          go_wp2
          go_meet
          exact ⟨rfl, rfl⟩
      case rest =>
        obtain ⟨rfl, rfl⟩ := hcut
        have hL0 : L0 = if bb then [x.src] else [] := by
          rw [← HL0.out, ← Hbb.out]
          by_cases hc : x.op = 8
          · rw [if_pos hc, decide_eq_true hc]; rfl
          · rw [if_neg hc, decide_eq_false hc]; rfl
        go_upto_if 54 with (fail)
        go_cut [0] (fun u W => GivesN w2 (putsB l' L0) (.returned u) W)
        case first =>
          have hL1 := Lib.hid hL0
          cases bb
          · go_wp2
            go_meet
            rw [hL1.out]
            exact ⟨_, _, _, rfl, HN2.out, Below.refl _ _⟩
          · have Hp := Lib.hid (put_any A4 n4 c4 l' x.src w2 HN2.out (by omega))
            go_wp2_with (go_at_call 15; refine Hp.out.mono ?_; rintro y w3 ⟨A3, n3, c3, rfl, hn3, hb3⟩)
            go_meet
            rw [hL1.out]
            exact ⟨_, _, _, rfl, hn3, hb3⟩
        case rest =>
          obtain ⟨A3, n3, c3, he, hn3, hb3⟩ := hcut
          injection he with he
          subst he
          generalize wc = w3 at *
          have hn3l := hn3.len
          have t3 := putsB_len L0 l'
          have HN3 := Lib.hid hn3
          have HB3 := Lib.hid hb3
          clear hn3 hL0
          obtain ⟨l3, Hl3⟩ : ∃ l3, Hid (putsB l' L0 = l3) := ⟨_, rfl⟩
          rw [Hl3.out] at HN3 hn3l t3
          obtain ⟨j0, j2, j5, j6, j7, jl⟩ := HX.out _ hb3
          clear hb3
          go_wp2
          go_loopw [0, 9] (fun u0 i wr => u0 = .slice A3 n3 c3 ∧ i = .int .i64 0 ∧ w3 = wr) (fun _ _ _ => 0)
          case atStart => exact ⟨rfl, rfl, rfl⟩
          case round =>
            obtain ⟨rfl, rfl, rfl⟩ := hrel
            have Hc1 := Lib.hid (ih A3 n3 c3 l3 Ab2 nb2 cb2 x.body w3 (HBo.out _ HB3.out) HbB.out HN3.out (by omega))
            have t8 := putsB_len (x.body.flatMap (emitsS d)) l3
            have hbase := HB3.out
            go_wp2_with (first
              | (go_at_call 17; (with_reducible refine Hc1.out.mono ?_); rintro y w8 ⟨A8, n8, c8, rfl, hn8, hb8⟩; have hb28 := hbase.trans (hb8.mono hbase.size); obtain ⟨p0, p2, p5, p6, p7, pl⟩ := HX.out w8 hb28; have Hc2 := Lib.hid (ih A8 n8 c8 _ Al2 nl2 cl2 x.els w8 (HLo.out _ hb28) HbL.out hn8 (by omega)))
              | (go_at_call 17; (with_reducible refine Hc2.out.mono ?_); rintro y w9 ⟨A9, n9, c9, rfl, hn9, hb9⟩))
            all_goals
              go_roundw
              case rel => exact ⟨k + 1, A9, n9, c9, _, by omega, by go_num, rfl, hn9, by rw [Hst.out, putsB_append, ← Hl'.out]; rw [Hfin.out, List.append_nil, putsB_append, putsB_append, Hl3.out], HB.out.trans ((HB2.out.trans ((hb28.trans (hb9.mono hb28.size)).mono HB2.out.size)).mono HB.out.size)⟩
              case measure => simp [intOf]; omega
end Go.Proofs.Ytgihhkfppnhdpaa

namespace Go.Proofs.Ytgihhkfppnhdpaa
open Go.RowKit Go.Afx

theorem putB_mem {l : List ByteArray} {s : ByteArray} (h : Rises l) (hs : s ∈ l) : putB l s = l := by
  induction l with
  | nil => cases hs
  | cons x r ih =>
    obtain ⟨h1, h2⟩ := List.pairwise_cons.1 h
    unfold putB
    rcases List.mem_cons.1 hs with rfl | hm
    · rw [if_neg (List.lt_irrefl _), if_pos rfl]
    · rw [if_pos (h1 s hm), ih h2 hm]

theorem right_parts {p : Pr} (h : rightB 101 p = true) : headsB p = true ∧ smallZ (sizeP 101 p) = true ∧ (∀ x ∈ p.body, builtS 101 x = true) := by
  unfold rightB at h
  simp only [Bool.and_eq_true, List.all_eq_true] at h
  exact ⟨h.1.1, h.1.2, h.2⟩
theorem uses_len {p : Pr} (h : rightB 101 p = true) : (p.body.flatMap (readsS 101)).length ≤ 300 ∧ (p.body.flatMap (writesS 101)).length ≤ 300 ∧ (p.body.flatMap (emitsS 101)).length ≤ 300 := by
  have h1 := (small_cnt (d := 101) (by omega) (right_parts h).2.1).1
  unfold cntP at h1
  have a := flat_cnt (readsS_le 101) p.body
  have b := flat_cnt (writesS_le 101) p.body
  have c := flat_cnt (emitsS_le 101) p.body
  omega
theorem usesP_len (p : Pr) : (readsP 101 p).length ≤ 300 ∧ (writesP 101 p).length ≤ 300 ∧ (emitsP 101 p).length ≤ 300 := by
  unfold readsP writesP emitsP
  by_cases h : rightB 101 p = true
  · rw [if_pos h, if_pos h, if_pos h]; exact uses_len h
  · rw [if_neg h, if_neg h, if_neg h]; simp

/-- a procedure of which a statement is left off -/
def leftOff (p : Pr) (k : Nat) : Pr := { p with body := p.body.take k ++ p.body.drop (k + 1) }
theorem left_mem {p : Pr} {k : Nat} {x : St} (h : x ∈ (leftOff p k).body) : x ∈ p.body := by
  rcases List.mem_append.1 h with h | h
  · exact List.mem_of_mem_take h
  · exact List.mem_of_mem_drop h
theorem maxN_ge {l : List Nat} {x : Nat} (h : x ∈ l) : x ≤ maxN l := by
  induction l with
  | nil => cases h
  | cons a r ih =>
    rw [maxN_cons]
    rcases List.mem_cons.1 h with rfl | h
    · omega
    · have := ih h; omega
theorem left_cnt {p : Pr} {k : Nat} (hk : k < p.body.length) : cntP 101 (leftOff p k) < cntP 101 p ∧ dptP 101 (leftOff p k) ≤ dptP 101 p := by
  constructor
  · have e : p.body = p.body.take k ++ p.body[k] :: p.body.drop (k + 1) := by rw [← List.drop_eq_getElem_cons hk, List.take_append_drop]
    have h1 : 1 ≤ cntS 101 p.body[k] := by rw [cntS]; omega
    unfold cntP leftOff
    conv => rhs; rw [e]
    simp only [List.map_append, List.sum_append, List.map_cons, List.sum_cons]
    omega
  · unfold dptP
    refine maxN_le fun y hy => ?_
    obtain ⟨x, hx, rfl⟩ := List.mem_map.1 hy
    exact maxN_ge (List.mem_map.2 ⟨x, left_mem hx, rfl⟩)
theorem left_told {p : Pr} {k : Nat} (h : rightB 101 p = true) (hk : k < p.body.length) : (tellP (leftOff p k)).1 < (tellP p).1 ∧ (tellP (leftOff p k)).2 ≤ (tellP p).2 := by
  obtain ⟨h1, h2⟩ := left_cnt hk
  have h3 := (small_cnt (d := 101) (by omega) (right_parts h).2.1).1
  unfold tellP tellN
  rw [if_neg (by omega), if_neg (by omega)]
  simp only
  omega
theorem left_right {p : Pr} {k : Nat} (h : rightB 101 p = true) (hk : k < p.body.length) : rightB 101 (leftOff p k) = true := by
  obtain ⟨h1, h2, h3⟩ := right_parts h
  obtain ⟨h4, h5⟩ := left_told h hk
  have h6 := small_told p
  have h7 := small_told (leftOff p k)
  rw [h2] at h6
  simp only [Bool.and_eq_true, decide_eq_true_eq] at h6
  have h8 : smallZ (sizeP 101 (leftOff p k)) = true := by
    rw [← h7]
    simp only [Bool.and_eq_true, decide_eq_true_eq]
    omega
  unfold rightB
  simp only [Bool.and_eq_true, List.all_eq_true]
  exact ⟨⟨h1, h8⟩, fun x hx => h3 x (left_mem hx)⟩
theorem left_reads {p : Pr} {k : Nat} (h : rightB 101 p = true) (hk : k < p.body.length) : ∀ s ∈ putsB [] (readsP 101 (leftOff p k)), s ∈ putsB [] (readsP 101 p) := by
  intro s hs
  rw [mem_putsB] at hs ⊢
  rcases hs with hs | hs
  · unfold readsP at hs ⊢
    rw [if_pos (left_right h hk)] at hs
    rw [if_pos h]
    obtain ⟨x, hx, hs⟩ := List.mem_flatMap.1 hs
    exact .inl (List.mem_flatMap.2 ⟨x, left_mem hx, hs⟩)
  · cases hs
theorem left_same {p : Pr} {k : Nat} (h : rightB 101 p = true) (hk : k < p.body.length) {s : ByteArray} (hs : s ∈ putsB [] (readsP 101 (leftOff p k))) : putB (putsB [] (readsP 101 p)) s = putsB [] (readsP 101 p) :=
  putB_mem (Rises.puts _ List.Pairwise.nil) (left_reads h hk s hs)
end Go.Proofs.Ytgihhkfppnhdpaa

namespace Go.Proofs.Ytgihhkfppnhdpaa
open Go.RowKit Go.Afx Go.Maps

theorem size_ex (row : List Value) (w : World) (h : PrAt (fun k => k < w.heap.size) 2 w row exP) : Calls Try.prog 12 #[.agg row.toArray] w fun x w' => x = .returned (.tuple #[.int .i64 2, .int .i64 2]) ∧ Below w.heap.size w w' := by
  have h1 := size_any _ 2 exP row w h (by omega)
  rw [ex_told] at h1
  exact h1
theorem right_ex (F : Nat → Prop) (row : List Value) (w : World) (h : PrAt F 2 w row exP) : Calls Try.prog 16 #[.agg row.toArray] w fun x w' => x = .returned (.bool true) ∧ Below w.heap.size w w' := by
  have h1 := right_any _ 2 exP row w h (by omega) (by simp [exP])
  rw [ex_right] at h1
  exact h1
theorem reads_ex (F : Nat → Prop) (row : List Value) (w : World) (h : PrAt F 2 w row exP) (hF : ∀ k, F k → k < w.heap.size) : Calls Try.prog 13 #[.agg row.toArray] w fun x w' => ∃ A c, x = .returned (.slice A 1 c) ∧ NamesAt w' A 1 c [str [116]] ∧ Below w.heap.size w w' := by
  have h1 := reads_any F 2 exP row w h hF (by omega) (by simp [exP]) (by rw [ex_reads]; simp)
  rw [ex_reads, ex_set] at h1
  refine h1.mono ?_
  rintro e w' ⟨A, c, rfl, hown, hb⟩
  exact ⟨A, c, rfl, OwnsN.names hown, hb⟩
theorem writes_ex (F : Nat → Prop) (row : List Value) (w : World) (h : PrAt F 2 w row exP) (hF : ∀ k, F k → k < w.heap.size) : Calls Try.prog 18 #[.agg row.toArray] w fun x w' => ∃ A c, x = .returned (.slice A 1 c) ∧ NamesAt w' A 1 c [str [116]] ∧ Below w.heap.size w w' := by
  have h1 := writes_any F 2 exP row w h hF (by omega) (by simp [exP]) (by rw [ex_writes]; simp)
  rw [ex_writes, ex_set] at h1
  refine h1.mono ?_
  rintro e w' ⟨A, c, rfl, hown, hb⟩
  exact ⟨A, c, rfl, OwnsN.names hown, hb⟩
theorem names_one {w : World} {g : Nat} (T : TypeId) (a : ByteArray) (hg : g = w.heap.size) : NamesAt (w.alloc (.cells #[.string a] T)) (some ⟨g, 0, none⟩) 1 1 [a] := RowsAt.lit' _ _ 1 hg rfl srow_len rfl (by unfold maxLen; omega)

theorem ex_at {g1 g2 : Nat} (T2 T3 : TypeId) (o3 : Obj) (w1 : World) (hg1 : g1 = w1.heap.size) (hg2 : g2 = (w1.alloc (.cells #[.int .i64 3, .int .i64 1, .string ⟨#[]⟩, .string ⟨#[]⟩, .string ⟨#[]⟩, .slice none 0 0] T2)).heap.size) :
    PrAt (fun k => k < (((w1.alloc (.cells #[.int .i64 3, .int .i64 1, .string ⟨#[]⟩, .string ⟨#[]⟩, .string ⟨#[]⟩, .slice none 0 0] T2)).alloc (.cells #[.int .i64 5, .string ⟨#[97]⟩, .string ⟨#[116]⟩, .int .i64 0, .slice none 0 0, .slice (some ⟨g1, 0, none⟩) 1 1, .slice none 0 0, .slice none 0 0] T3)).alloc o3).heap.size) 2
      (((w1.alloc (.cells #[.int .i64 3, .int .i64 1, .string ⟨#[]⟩, .string ⟨#[]⟩, .string ⟨#[]⟩, .slice none 0 0] T2)).alloc (.cells #[.int .i64 5, .string ⟨#[97]⟩, .string ⟨#[116]⟩, .int .i64 0, .slice none 0 0, .slice (some ⟨g1, 0, none⟩) 1 1, .slice none 0 0, .slice none 0 0] T3)).alloc o3)
      [.string ⟨#[112]⟩, .string ⟨#[]⟩, .string ⟨#[]⟩, .int .i64 1, .slice none 0 0, .slice (some ⟨g2, 0, none⟩) 1 1] exP := by
  generalize hW : (((w1.alloc (.cells #[.int .i64 3, .int .i64 1, .string ⟨#[]⟩, .string ⟨#[]⟩, .string ⟨#[]⟩, .slice none 0 0] T2)).alloc (.cells #[.int .i64 5, .string ⟨#[97]⟩, .string ⟨#[116]⟩, .int .i64 0, .slice none 0 0, .slice (some ⟨g1, 0, none⟩) 1 1, .slice none 0 0, .slice none 0 0] T3)).alloc o3) = W
  have okS0 : okS (str []) := by unfold okS; decide +kernel
  have okS1 : okS (str [112]) := by unfold okS; decide +kernel
  have okS2 : okS (str [97]) := by unfold okS; decide +kernel
  have okS3 : okS (str [116]) := by unfold okS; decide +kernel
  have okI1 : ∀ x : Int, 0 ≤ x → x ≤ 100 → okI x := fun x h k => by unfold okI; omega
  have r1 : RowsAt W 6 (some ⟨g1, 0, none⟩) 1 1 [[.int .i64 3, .int .i64 1, .string ⟨#[]⟩, .string ⟨#[]⟩, .string ⟨#[]⟩, .slice none 0 0]] := by
    rw [← hW]
    exact ((RowsAt.lit' _ _ 1 hg1 rfl (by simp) rfl (by unfold maxLen; omega)).below ((Below.refl _ _).alloc (Nat.le_refl _) _)).below ((Below.refl _ _).alloc (Nat.le_refl _) _)
  have r2 : RowsAt W 8 (some ⟨g2, 0, none⟩) 1 1 [[.int .i64 5, .string ⟨#[97]⟩, .string ⟨#[116]⟩, .int .i64 0, .slice none 0 0, .slice (some ⟨g1, 0, none⟩) 1 1, .slice none 0 0, .slice none 0 0]] := by
    rw [← hW]
    exact (RowsAt.lit' _ _ 1 hg2 rfl (by simp) rfl (by unfold maxLen; omega)).below ((Below.refl _ _).alloc (Nat.le_refl _) _)
  have hz1 : g1 < W.heap.size := by rw [← hW, hg1]; simp; omega
  have hz2 : g2 < W.heap.size := by rw [← hW, hg2]; simp
  have hE : ExsAt (fun k => k < W.heap.size) 1 W (some ⟨g1, 0, none⟩) 1 1 [exE] := by
    refine ⟨_, r1, fun a ha _ => by cases ha; exact hz1, rfl, fun k r x hr hx => ?_⟩
    cases k with
    | zero =>
      simp at hr hx
      subst hr hx
      exact ⟨rfl, okI1 3 (by omega) (by omega), okI1 1 (by omega) (by omega), okS0, okS0, okS0, none, 0, 0, rfl, LsAt.nil_ _ _ _ _⟩
    | succ k => simp at hr
  have hS : StsAt (fun k => k < W.heap.size) 2 W (some ⟨g2, 0, none⟩) 1 1 [exS] := by
    refine ⟨_, r2, fun a ha _ => by cases ha; exact hz2, rfl, fun k r x hr hx => ?_⟩
    cases k with
    | zero =>
      simp at hr hx
      subst hr hx
      exact ⟨rfl, okI1 5 (by omega) (by omega), okI1 0 (by omega) (by omega), okS2, okS3, none, 0, 0, _, 1, 1, none, 0, 0, none, 0, 0, rfl, LsAt.nil_ _ _ _ _, hE, LsAt.nil_ _ _ _ _, LsAt.nil_ _ _ _ _⟩
    | succ k => simp at hr
  exact ⟨okS1, okS0, okS0, okI1 1 (by omega) (by omega), none, 0, 0, _, 1, 1, rfl, LsAt.nil_ _ _ _ _, hS⟩

set_option maxRecDepth 100000 in
set_option maxHeartbeats 2000000 in
theorem awake_any (w : World) : Calls Try.prog 6 #[] w fun x w' => x = .returned (.bool true) ∧ Below w.heap.size w w' := by
  obtain ⟨w4, Hw4⟩ : ∃ w4, Hid (w4 = (((w.alloc (.cells #[.int .i64 3, .int .i64 1, .string { data := #[] }, .string { data := #[] }, .string { data := #[] }, .slice none 0 0] 50)).alloc (.cells #[.int .i64 3, .int .i64 1, .string { data := #[] }, .string { data := #[] }, .string { data := #[] }, .slice none 0 0] 50)).alloc (.cells #[.int .i64 5, .string { data := #[97] }, .string { data := #[116] }, .int .i64 0, .slice none 0 0, .slice (some ⟨w.heap.size + 1, 0, none⟩) 1 1, .slice none 0 0, .slice none 0 0] 52)).alloc (.cells #[.string { data := #[112] }, .string { data := #[] }, .string { data := #[] }, .int .i64 1, .slice none 0 0, .slice (some ⟨w.heap.size + 1 + 1, 0, none⟩) 1 1] 34)) := ⟨_, rfl⟩
  have hP : PrAt (fun k => k < w4.heap.size) 2 w4 (#[.string { data := #[112] }, .string { data := #[] }, .string { data := #[] }, .int .i64 1, .slice none 0 0, .slice (some ⟨w.heap.size + 1 + 1, 0, none⟩) 1 1] : Array Value).toList exP := by
    rw [Hw4.out]
    exact ex_at _ _ _ _ (by simp) (by simp)
  have hb4 : Below w.heap.size w w4 := by rw [Hw4.out]; exact ((((Below.refl _ _).alloc (Nat.le_refl _) _).alloc (by simp) _).alloc (by simp; omega) _).alloc (by simp; omega) _
  have hx4 : IsBlk w4 (w.heap.size + 1 + 1 + 1) 34 #[.string { data := #[112] }, .string { data := #[] }, .string { data := #[] }, .int .i64 1, .slice none 0 0, .slice (some ⟨w.heap.size + 1 + 1, 0, none⟩) 1 1] := by rw [Hw4.out]; exact laid_at (by simp) _ _
  have HP := Lib.hid hP
  have Hp := Lib.hid (fun W (hW : Below w4.heap.size w4 W) => prBox (hx4.as_was (hW.block _ hx4.lt)))
  have hR : Below w4.heap.size w4 w4 := Below.refl _ _
  obtain ⟨p0, p1, p2, p3, p4, p5, pl⟩ := Hp.out _ hR
  have Hsz := Lib.hid (size_ex _ w4 hP)
  have Hri := Lib.hid (fun W (hW : Below w4.heap.size w4 W) => right_ex _ _ W (hP.below hW))
  have Hre := Lib.hid (fun W (hW : Below w4.heap.size w4 W) => reads_ex _ _ W (hP.below hW) (fun k hk => Nat.lt_of_lt_of_le hk hW.size))
  have Hwr := Lib.hid (fun W (hW : Below w4.heap.size w4 W) => writes_ex _ _ W (hP.below hW) (fun k hk => Nat.lt_of_lt_of_le hk hW.size))
  clear hP hx4
  go_enter Try.func6, Try.ntmps6
  go_upto_region 3 with (fail)
  rw [← Hw4.out]
  go_wp2_with (first | (go_at_call 12; refine Hsz.out.mono ?_; rintro x w5 ⟨rfl, hb5⟩; replace hR := hR.trans (hb5.mono (by first | exact hR.size | (have := hR.size; simp; omega))); obtain ⟨p0, p1, p2, p3, p4, p5, pl⟩ := Hp.out _ hR) | (go_at_call 16; refine (Hri.out _ hR).mono ?_; rintro x w6 ⟨rfl, hb6⟩; replace hR := hR.trans (hb6.mono (by first | exact hR.size | (have := hR.size; simp; omega))); obtain ⟨p0, p1, p2, p3, p4, p5, pl⟩ := Hp.out _ hR) | (go_at_call 13; refine (Hre.out _ hR).mono ?_; rintro x w7 ⟨A7, c7, rfl, hn7, hb7⟩; replace hR := hR.trans (hb7.mono (by first | exact hR.size | (have := hR.size; simp; omega))); obtain ⟨p0, p1, p2, p3, p4, p5, pl⟩ := Hp.out _ hR; have Hsame := Lib.hid (sameRef_any _ _ _ _ _ _ _ _ _ (hn7.below ((Below.refl _ _).alloc (Nat.le_refl _) (.cells #[.string { data := #[116] }] 9))) (names_one 9 (str [116]) rfl)); have hbs : Below w4.heap.size w4 (w7.alloc (.cells #[.string { data := #[116] }] 9)) := hR.alloc hR.size _) | (go_at_call 18; refine (Hwr.out _ hR).mono ?_; rintro x w9 ⟨A9, c9, rfl, hn9, hb9⟩; replace hR := hR.trans (hb9.mono (by first | exact hR.size | (have := hR.size; simp; omega))); obtain ⟨p0, p1, p2, p3, p4, p5, pl⟩ := Hp.out _ hR; have Hsame2 := Lib.hid (sameRef_any _ _ _ _ _ _ _ _ _ (hn9.below ((Below.refl _ _).alloc (Nat.le_refl _) (.cells #[.string { data := #[116] }] 9))) (names_one 9 (str [116]) rfl)); have hbs2 : Below w4.heap.size w4 (w9.alloc (.cells #[.string { data := #[116] }] 9)) := hR.alloc hR.size _) | (go_at_call 14; with_reducible refine Hsame2.out.mono ?_; rintro x w10 ⟨rfl, hb10⟩; have hR10 := hbs2.trans (hb10.mono hbs2.size)) | (go_at_call 14; with_reducible refine Hsame.out.mono ?_; rintro x w8 ⟨rfl, hb8⟩; replace hR := hbs.trans (hb8.mono hbs.size); obtain ⟨p0, p1, p2, p3, p4, p5, pl⟩ := Hp.out _ hR))
  go_ret
  exact ⟨ret_bool (by simp), hb4.trans (hR10.mono hb4.size)⟩
end Go.Proofs.Ytgihhkfppnhdpaa

namespace Go.Proofs.Ytgihhkfppnhdpaa
open Go.RowKit Go.Afx Go.Maps

theorem str_data (x : ByteArray) : str x.data.toList = x := by cases x; rfl
theorem names_back (l : List ByteArray) : (l.map (·.data.toList)).map str = l := by
  rw [List.map_map]
  conv => rhs; rw [← List.map_id l]
  exact List.map_congr_left fun x _ => str_data x
theorem owns_gives {w : World} {L : List ByteArray} {e : Ending} {w' : World} (h : OwnsN w (setL L) e w') : GivesN w (putsB [] L) e w' := by
  obtain ⟨A, c, rfl, hown, hb⟩ := h
  rw [setL_puts] at hown
  have h1 := OwnsN.names hown
  rw [names_back] at h1
  rw [setL_puts]
  exact ⟨A, _, c, rfl, h1, hb⟩
theorem reads_names (F : Nat → Prop) (p : Pr) (row : List Value) (w : World) (h : PrAt F 101 w row p) (hF : ∀ k, F k → k < w.heap.size) (hb : p.params.length ≤ 12) :
    Calls Try.prog 13 #[.agg row.toArray] w (GivesN w (putsB [] (readsP 101 p))) :=
  (reads_any F 101 p row w h hF (by omega) (by omega) (by have := usesP_len p; omega)).mono fun _ _ h => owns_gives h
theorem writes_names (F : Nat → Prop) (p : Pr) (row : List Value) (w : World) (h : PrAt F 101 w row p) (hF : ∀ k, F k → k < w.heap.size) (hb : p.params.length ≤ 12) :
    Calls Try.prog 18 #[.agg row.toArray] w (GivesN w (putsB [] (writesP 101 p))) :=
  (writes_any F 101 p row w h hF (by omega) (by omega) (by have := usesP_len p; omega)).mono fun _ _ h => owns_gives h
theorem emits_names (F : Nat → Prop) (p : Pr) (row : List Value) (w : World) (h : PrAt F 101 w row p) (hF : ∀ k, F k → k < w.heap.size) (hb : p.params.length ≤ 12) :
    Calls Try.prog 19 #[.agg row.toArray] w (GivesN w (putsB [] (emitsP 101 p))) :=
  (emits_any F 101 p row w h hF (by omega) (by omega) (by have := usesP_len p; omega)).mono fun _ _ h => owns_gives h

set_option maxRecDepth 100000 in
set_option maxHeartbeats 8000000 in
theorem procs_walk (HRB : ∀ F : Nat → Prop, RBuiltS F 101) (F : Nat → Prop) (name src part : ByteArray) (fuel : Int) (Ap : Option Addr) (np cp : Nat) (params : List Co) (A A' : Option Addr) (n c n' c' : Nat) (xs : List Lf) (ys : List Kn) (Ak : Option Addr) (nk ck : Nat) (ks : List Int) (w : World)
    (hp : LsAt F w 2 CoRow Ap np cp params) (h1 : LsAt F w 6 (LfAt F w) A n c xs) (h2 : LsAt F w 8 (KnAt F w) A' n' c' ys) (hks : LsAt F w 1 IRow Ak nk ck ks) (hF : ∀ k, F k → k < w.heap.size) (okn : okS name) (oks : okS src) (okp : okS part) (okf : okI fuel) :
    Calls Try.prog 5 #[.agg #[.string name, .string src, .string part, .int .i64 fuel, .slice Ap np cp, .slice A n c, .slice A' n' c', .slice Ak nk ck]] w fun x w' => x = .returned (.bool true) ∧ Below w.heap.size w w' := by
  have hb1 : Below w.heap.size w (w.alloc (.cells #[.string name, .string src, .string part, .int .i64 fuel, .slice Ap np cp, .slice A n c, .slice A' n' c', .slice Ak nk ck] 31)) := (Below.refl _ _).alloc (Nat.le_refl _) _
  have HOf := Lib.hid (of_any HRB F name src part fuel Ap np cp params A A' n c n' c' xs ys Ak nk ck ks (w.alloc (.cells #[.string name, .string src, .string part, .int .i64 fuel, .slice Ap np cp, .slice A n c, .slice A' n' c', .slice Ak nk ck] 31)) (hp.below hb1) (h1.conv (Kept.of_below hb1) (fun _ _ _ h => h) (fun r x _ hx => LfAt.below hx hb1)) (h2.conv (Kept.of_below hb1) (fun _ _ _ h => h) (fun r x _ hx => KnAt.below hx hb1)) (hks.below hb1) (fun k hk => by have := hF k hk; simp; omega) okn oks okp okf)
  have HA := Lib.hid (fun W => awake_any W)
  have Hb1 := Lib.hid hb1
  clear hp h1 h2 hks hb1 okn oks okp okf hF
  go_enter Try.func5, Try.ntmps5
  go_upto_region 2 with (go_at_call 11; refine HOf.out.mono ?_; rintro e w2 ⟨nm, sr, pt, fu, Ap2, np2, cp2, Ab2, nb2, cb2, m, d, r, ok, rfl, hb2, hP⟩)
  obtain ⟨w3, Hw3⟩ : ∃ w3, Hid (w3 = w2.alloc (.cells #[.string nm, .string sr, .string pt, .int .i64 fu, .slice Ap2 np2 cp2, .slice Ab2 nb2 cb2] 34)) := ⟨_, rfl⟩
  rw [← Hw3.out]
  have hb3 : Below w2.heap.size w2 w3 := by rw [Hw3.out]; exact (Below.refl _ _).alloc (Nat.le_refl _) _
  have Hz3 : Hid (w3.heap.size = w2.heap.size + 1) := Lib.hid (by rw [Hw3.out]; simp)
  have hx3 : IsBlk w3 w2.heap.size 34 #[.string nm, .string sr, .string pt, .int .i64 fu, .slice Ap2 np2 cp2, .slice Ab2 nb2 cb2] := by rw [Hw3.out]; exact IsBlk.laid _ _ _
  have H03 := Lib.hid ((Hb1.out.trans (hb2.mono Hb1.out.size)).trans (hb3.mono (Nat.le_trans Hb1.out.size hb2.size)))
  have Hb3 := Lib.hid hb3
  have Hx := Lib.hid (fun W (hW : Below w3.heap.size w3 W) => prBox (hx3.as_was (hW.block _ hx3.lt)))
  clear hb2 hb3 HOf Hb1
  have hR : Below w3.heap.size w3 w3 := Below.refl _ _
  obtain ⟨p0, p1, p2, p3, p4, p5, pl⟩ := Hx.out _ hR
  cases ok
  · clear hP hx3
    go_wp2_with (go_at_call 6; refine (HA.out _).mono ?_; rintro x w4 ⟨rfl, hb4⟩)
    go_ret
    exact ⟨rfl, H03.out.trans (hb4.mono H03.out.size)⟩
  obtain ⟨p, hPr, hnd, hr, hp12, hb12⟩ := hP rfl
  have hPr3 := hPr.below Hb3.out
  have HP := Lib.hid hPr3
  have Hr := Lib.hid hr
  have Hsz := Lib.hid (fun W (hW : Below w3.heap.size w3 W) => (show Calls Try.prog 12 #[.agg #[.string nm, .string sr, .string pt, .int .i64 fu, .slice Ap2 np2 cp2, .slice Ab2 nb2 cb2]] W fun x w' => x = .returned (.tuple #[.int .i64 m, .int .i64 d]) ∧ Below W.heap.size W w' from by
    have h := size_any _ 101 p _ W (hPr3.below hW) (by omega)
    rw [told_size, ← hnd] at h
    exact h))
  have Hri := Lib.hid (fun W (hW : Below w3.heap.size w3 W) => (show Calls Try.prog 16 #[.agg #[.string nm, .string sr, .string pt, .int .i64 fu, .slice Ap2 np2 cp2, .slice Ab2 nb2 cb2]] W fun x w' => x = .returned (.bool r) ∧ Below W.heap.size W w' from by
    have h := right_any _ 101 p _ W (hPr3.below hW) (by omega) (by omega)
    rw [← hr] at h
    exact h))
  have He0 := Lib.hid (fun W (hW : Below w3.heap.size w3 W) => reads_names _ p _ W (hPr3.below hW) (fun k hk => by have h1 := hW.size; have h2 := Hz3.out; show k < W.heap.size; have h3 : k < w2.heap.size := hk; omega) hp12)
  have He1 := Lib.hid (fun W (hW : Below w3.heap.size w3 W) => writes_names _ p _ W (hPr3.below hW) (fun k hk => by have h1 := hW.size; have h2 := Hz3.out; show k < W.heap.size; have h3 : k < w2.heap.size := hk; omega) hp12)
  have He2 := Lib.hid (fun W (hW : Below w3.heap.size w3 W) => emits_names _ p _ W (hPr3.below hW) (fun k hk => by have h1 := hW.size; have h2 := Hz3.out; show k < W.heap.size; have h3 : k < w2.heap.size := hk; omega) hp12)
  have Hus : Hid (r = true → ∀ W, Below w3.heap.size w3 W → Calls Try.prog 17 #[.slice none 0 0, .slice Ab2 nb2 cb2, .int .i64 0] W (GivesN W (putsB [] (readsP 101 p))) ∧ Calls Try.prog 17 #[.slice none 0 0, .slice Ab2 nb2 cb2, .int .i64 1] W (GivesN W (putsB [] (writesP 101 p))) ∧ Calls Try.prog 17 #[.slice none 0 0, .slice Ab2 nb2 cb2, .int .i64 2] W (GivesN W (putsB [] (emitsP 101 p)))) := Lib.hid (fun h W hW => by
    rw [hr] at h
    have hl := uses_len h
    obtain ⟨_, _, _, _, A4, n4, c4, A5, n5, c5, hrow, _, hbl⟩ := hPr3.below hW
    simp only [List.cons.injEq, Value.slice.injEq] at hrow
    obtain ⟨_, _, _, _, _, ⟨rfl, rfl, rfl⟩, _⟩ := hrow
    unfold readsP writesP emitsP
    rw [if_pos h, if_pos h, if_pos h]
    have hn : NamesAt W none 0 0 [] := NamesAt.none_ (by unfold maxLen; omega)
    exact ⟨ruses0_any _ 101 none 0 0 [] _ _ _ _ W hbl (right_parts h).2.2 hn (by simp only [List.length_nil]; omega), ruses1_any _ 101 none 0 0 [] _ _ _ _ W hbl (right_parts h).2.2 hn (by simp only [List.length_nil]; omega), ruses2_any _ 101 none 0 0 [] _ _ _ _ W hbl (right_parts h).2.2 hn (by simp only [List.length_nil]; omega)⟩)
  have Hno : Hid (r = false → readsP 101 p = [] ∧ writesP 101 p = [] ∧ emitsP 101 p = []) := Lib.hid (fun h => by
    rw [hr] at h
    unfold readsP writesP emitsP
    simp [h])
  have Hno2 : Hid (r = false → putsB [] (readsP 101 p) = [] ∧ putsB [] (writesP 101 p) = [] ∧ putsB [] (emitsP 101 p) = []) := Lib.hid (fun h => by
    obtain ⟨h0, h1, h2⟩ := Hno.out h
    rw [h0, h1, h2]; exact ⟨rfl, rfl, rfl⟩)
  clear hx3 hPr hPr3 hnd hr Hno
  generalize putsB [] (readsP 101 p) = R0 at *
  generalize putsB [] (writesP 101 p) = R1 at *
  generalize putsB [] (emitsP 101 p) = R2 at *
  cases r
  case' false =>
    obtain ⟨e0, e1, e2⟩ := Hno2.out rfl
    subst e0 e1 e2
    clear Hus Hno2
    go_upto_region 10 with (go_at_call 12; (with_reducible refine (Hsz.out _ hR).mono ?_); rintro x w4 ⟨rfl, hb4⟩; replace hR := hR.trans (hb4.mono hR.size); obtain ⟨p0, p1, p2, p3, p4, p5, pl⟩ := Hx.out _ hR)
    have hnil : NamesAt w4 none 0 0 [] := NamesAt.none_ (by unfold maxLen; omega)
    have Hu0 := Lib.hid (fun W (hW : Below w4.heap.size w4 W) => hnil.below hW)
    have Hu1 := Lib.hid (fun W (hW : Below w4.heap.size w4 W) => hnil.below hW)
    have Hu2 := Lib.hid (fun W (hW : Below w4.heap.size w4 W) => hnil.below hW)
    have hU : Below w4.heap.size w4 w4 := Below.refl _ _
    clear hnil
  case' true =>
    have HusT := Lib.hid (Hus.out rfl)
    clear Hus Hno2
    go_upto_region 7 with (go_at_call 12; (with_reducible refine (Hsz.out _ hR).mono ?_); rintro x w4 ⟨rfl, hb4⟩; replace hR := hR.trans (hb4.mono hR.size); obtain ⟨p0, p1, p2, p3, p4, p5, pl⟩ := Hx.out _ hR)
    go_upto_region 8 with (go_at_call 17; (with_reducible refine ((HusT.out _ hR).1).mono ?_); rintro x w5 ⟨A5, n5, c5, rfl, hn5, hb5⟩; replace hR := hR.trans (hb5.mono hR.size); obtain ⟨p0, p1, p2, p3, p4, p5, pl⟩ := Hx.out _ hR)
    go_upto_region 9 with (go_at_call 17; (with_reducible refine ((HusT.out _ hR).2.1).mono ?_); rintro x w6 ⟨A6, n6, c6, rfl, hn6, hb6⟩; replace hR := hR.trans (hb6.mono hR.size); obtain ⟨p0, p1, p2, p3, p4, p5, pl⟩ := Hx.out _ hR)
    go_upto_region 10 with (go_at_call 17; (with_reducible refine ((HusT.out _ hR).2.2).mono ?_); rintro x w7 ⟨A7, n7, c7, rfl, hn7, hb7⟩; replace hR := hR.trans (hb7.mono hR.size); obtain ⟨p0, p1, p2, p3, p4, p5, pl⟩ := Hx.out _ hR)
    have Hu0 := Lib.hid (fun W (hW : Below w7.heap.size w7 W) => ((hn5.below hb6).below hb7).below hW)
    have Hu1 := Lib.hid (fun W (hW : Below w7.heap.size w7 W) => (hn6.below hb7).below hW)
    have Hu2 := Lib.hid (fun W (hW : Below w7.heap.size w7 W) => hn7.below hW)
    have hU : Below w7.heap.size w7 w7 := Below.refl _ _
    clear hn5 hn6 hn7
  all_goals
    go_wp2_with (first
      | (go_at_call 16; (with_reducible refine (Hri.out _ hR).mono ?_); rintro x w10 ⟨rfl, hb10⟩; replace hR := hR.trans (hb10.mono hR.size); replace hU := hU.trans (hb10.mono hU.size); obtain ⟨p0, p1, p2, p3, p4, p5, pl⟩ := Hx.out _ hR)
      | (go_at_call 13; (with_reducible refine (He0.out _ hR).mono ?_); rintro x w11 ⟨A11, n11, c11, rfl, hn11, hb11⟩; replace hR := hR.trans (hb11.mono hR.size); replace hU := hU.trans (hb11.mono hU.size); obtain ⟨p0, p1, p2, p3, p4, p5, pl⟩ := Hx.out _ hR; have Hs0 := Lib.hid (sameRef_any _ _ _ _ _ _ _ _ _ hn11 (Hu0.out _ hU)); rw [decide_eq_true rfl] at Hs0)
      | (go_at_call 18; (with_reducible refine (He1.out _ hR).mono ?_); rintro x w13 ⟨A13, n13, c13, rfl, hn13, hb13⟩; replace hR := hR.trans (hb13.mono hR.size); replace hU := hU.trans (hb13.mono hU.size); obtain ⟨p0, p1, p2, p3, p4, p5, pl⟩ := Hx.out _ hR; have Hs1 := Lib.hid (sameRef_any _ _ _ _ _ _ _ _ _ hn13 (Hu1.out _ hU)); rw [decide_eq_true rfl] at Hs1)
      | (go_at_call 19; (with_reducible refine (He2.out _ hR).mono ?_); rintro x w15 ⟨A15, n15, c15, rfl, hn15, hb15⟩; replace hR := hR.trans (hb15.mono hR.size); replace hU := hU.trans (hb15.mono hU.size); obtain ⟨p0, p1, p2, p3, p4, p5, pl⟩ := Hx.out _ hR; have Hs2 := Lib.hid (sameRef_any _ _ _ _ _ _ _ _ _ hn15 (Hu2.out _ hU)); rw [decide_eq_true rfl] at Hs2)
      | (go_at_call 14; (with_reducible refine Hs2.out.mono ?_); rintro x w16 ⟨rfl, hb16⟩; replace hR := hR.trans (hb16.mono hR.size); replace hU := hU.trans (hb16.mono hU.size); obtain ⟨p0, p1, p2, p3, p4, p5, pl⟩ := Hx.out _ hR)
      | (go_at_call 14; (with_reducible refine Hs1.out.mono ?_); rintro x w14 ⟨rfl, hb14⟩; replace hR := hR.trans (hb14.mono hR.size); replace hU := hU.trans (hb14.mono hU.size); obtain ⟨p0, p1, p2, p3, p4, p5, pl⟩ := Hx.out _ hR)
      | (go_at_call 14; (with_reducible refine Hs0.out.mono ?_); rintro x w12 ⟨rfl, hb12⟩; replace hR := hR.trans (hb12.mono hR.size); replace hU := hU.trans (hb12.mono hU.size); obtain ⟨p0, p1, p2, p3, p4, p5, pl⟩ := Hx.out _ hR)
      | (go_at_call 6; refine (HA.out _).mono ?_; rintro x w20 ⟨rfl, hb20⟩; replace hR := hR.trans (hb20.mono hR.size)))
    go_ret
    exact ⟨ret_bool (by simp), H03.out.trans (hR.mono H03.out.size)⟩
end Go.Proofs.Ytgihhkfppnhdpaa
