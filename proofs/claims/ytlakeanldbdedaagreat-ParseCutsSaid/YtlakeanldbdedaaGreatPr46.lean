/- Parts of this proof, one behind the other: SynN, ParZ6. -/
import Derived.Test.YtlakeanldbdedaaGreatPr36
import Derived.Test.YtlakeanldbdedaaGreatPr45
namespace Go.Proofs.YtlakeanldbdedaaGreat
open Go.RowKit Go.Afx

theorem rightB_eq (d : Nat) (p : Pr) : rightB d p = (headsR p.name p.src p.part p.fuel p.params && smallZ (allZ 0 (sizeS d 0) (0, 0) p.body) && p.body.all (builtS d)) := rfl

set_option maxHeartbeats 2000000 in
theorem right_any (F : Nat → Prop) (d : Nat) (p : Pr) (row : List Value) (w : World) (h : PrAt F d w row p) (hd : d ≤ 10000) (hbig : p.params.length ≤ 1000000) :
    Calls Tryz.prog 8 #[.agg row.toArray] w fun x w' => x = .returned (.bool (rightB d p)) ∧ Below w.heap.size w w' := by
  obtain ⟨okn, oks, okp, _, Ap, np, cp, Ab, nb, cb, rfl, hpl, hbl⟩ := h
  rw [hpl.len] at hbig
  have hb1 : Below w.heap.size w (w.alloc (.cells #[.string p.name, .string p.src, .string p.part, .int .i64 p.fuel, .slice Ap np cp, .slice Ab nb cb] 25)) := (Below.refl _ _).alloc (Nat.le_refl _) _
  have hx1 : IsBlk (w.alloc (.cells #[.string p.name, .string p.src, .string p.part, .int .i64 p.fuel, .slice Ap np cp, .slice Ab nb cb] 25)) w.heap.size 25 #[.string p.name, .string p.src, .string p.part, .int .i64 p.fuel, .slice Ap np cp, .slice Ab nb cb] := IsBlk.laid _ _ _
  have Hx1 := Lib.hid hx1
  have Ha := Lib.hid (allS_any F d (sizeS_any F d) Ab nb cb p.body 0 _ (hbl.below hb1) (by omega) (by omega))
  have Hh := Lib.hid (fun W (hW : Below w.heap.size w W) => heads_any F p.name p.src p.part p.fuel Ap Ab np cp nb cb p.params W (hpl.below hW) okn oks hbig)
  have Hb := Lib.hid (fun W (hW : Below w.heap.size w W) => blocks_any F d Ab nb cb p.body W (hbl.below hW))
  have hfin := rightB_eq d p
  generalize allZ 0 (sizeS d 0) (0, 0) p.body = s at *
  generalize headsR p.name p.src p.part p.fuel p.params = qh at *
  generalize p.body.all (builtS d) = qb at *
  generalize rightB d p = fin at *
  have Hfin := Lib.hid hfin
  clear hfin hx1
  obtain ⟨s1, s2⟩ := s
  go_enter Tryz.func8, Tryz.ntmps8
  go_upto_region 2 with (go_at_call 18; refine Ha.out.mono ?_; rintro x w1 ⟨rfl, hb⟩; have hx2 := Hx1.out.as_was (hb.block _ Hx1.out.lt))
  have hz := hb.size
  simp at hz
  have hk : IsBlk (w1.alloc (.cells #[.int .i64 s1, .int .i64 s2] 54)) w1.heap.size 54 #[.int .i64 s1, .int .i64 s2] := IsBlk.laid _ _ _
  have hx3 := hx2.alloc (.cells #[.int .i64 s1, .int .i64 s2] 54)
  have hb2 := (hb1.trans (hb.mono hb1.size)).alloc (by omega) (.cells #[.int .i64 s1, .int .i64 s2] 54)
  have Hk := Lib.hid hk
  have Hx3 := Lib.hid hx3
  have Hs := Lib.hid (fun W (h : IsBlk W w1.heap.size 54 #[.int .i64 s1, .int .i64 s2]) => small_any _ s1 s2 W h)
  obtain ⟨z0, z1, z2, z3, z4, z5, zl⟩ := prBox hx2
  clear hk hx2 hx3
  generalize smallZ (s1, s2) = qs at *
  cases qh <;> cases qs
  all_goals
    go_wp2_with (first | (go_at_call 20; refine (Hh.out _ hb2).mono ?_; rintro x w3 ⟨rfl, hb3⟩; have hk3 := Hk.out.as_was (hb3.block _ Hk.out.lt); have hx4 := Hx3.out.as_was (hb3.block _ Hx3.out.lt); have hb03 := hb2.trans (hb3.mono hb2.size); obtain ⟨y0, y1, y2, y3, y4, y5, yl⟩ := prBox hx4) | (go_at_call 21; refine (Hs.out _ hk3).mono ?_; rintro x w' ⟨rfl, rfl⟩) | (go_at_call 22; refine (Hb.out _ hb03).mono ?_; rintro x w4 ⟨rfl, hb4⟩))
    go_ret
    first | exact ⟨ret_bool (by rw [Hfin.out]; simp), hb03.trans (hb4.mono hb03.size)⟩ | exact ⟨ret_bool (by rw [Hfin.out]; simp), hb03⟩
end Go.Proofs.YtlakeanldbdedaaGreat

namespace Go.Proofs.YtlakeanldbdedaaGreat
open Go.RowKit Go.Afx


/-- what comes of a text's words: the tree, where, why not -/
def endX {α : Type} (z : α) (right : α → Bool) (W : Wds) (r : α × PSt) : α × Int × Int :=
  if r.2.over then (z, 0, 14) else if r.2.bad || decide (r.2.at_ < W.l.length) then (z, (W.look r.2.at_).at_, 12) else if right r.1 then (r.1, 0, 0) else (z, 0, 14)
def textX {α : Type} (z : α) (right : α → Bool) (run : Wds → PSt → α × PSt) (L : List UInt8) : α × Int × Int :=
  if 8000 < L.length then (z, 0, 5) else match lexL L with
    | .inl a => (z, (a : Int), 12)
    | .inr ws => endX z right ⟨ws, L.length⟩ (run ⟨ws, L.length⟩ PSt.start)
def pr0 : Pr := ⟨nil0, nil0, nil0, 0, [], []⟩
def procX (L : List UInt8) : Pr × Int × Int := textX pr0 (rightB 9000) procP L
theorem textX_long {α : Type} {z : α} {right : α → Bool} {run : Wds → PSt → α × PSt} {L : List UInt8} (h : 8000 < L.length) : textX z right run L = (z, 0, 5) := by unfold textX; rw [if_pos h]
theorem textX_inl {α : Type} {z : α} {right : α → Bool} {run : Wds → PSt → α × PSt} {L : List UInt8} {a : Nat} (h : ¬ 8000 < L.length) (hl : lexL L = .inl a) : textX z right run L = (z, (a : Int), 12) := by unfold textX; rw [if_neg h, hl]
theorem textX_inr {α : Type} {z : α} {right : α → Bool} {run : Wds → PSt → α × PSt} {L : List UInt8} {ws : List Wd} (h : ¬ 8000 < L.length) (hl : lexL L = .inr ws) : textX z right run L = endX z right ⟨ws, L.length⟩ (run ⟨ws, L.length⟩ PSt.start) := by unfold textX; rw [if_neg h, hl]
theorem len_listP {α : Type} (W : Wds) {one : PSt → α × PSt} (hU : ∀ s, Ge s (one s).2) : ∀ (k : Nat) (l : List α) (s : PSt), (listP W one k l s).1.length ≤ l.length + ((listP W one k l s).2.at_ - s.at_) := by
  intro k
  induction k with
  | zero => intro l s; show l.length ≤ _; omega
  | succ k ih =>
    intro l s
    unfold listP
    split
    · rename_i h
      have h0 : (mayP W (str [44]) s).2.at_ = s.at_ + 1 := by rw [(may_yes h).1]; rfl
      have h1 := (hU (mayP W (str [44]) s).2).1
      have h2 := ih (l ++ [(one (mayP W (str [44]) s).2).1]) (one (mayP W (str [44]) s).2).2
      have h3 := (up_listP W hU k (l ++ [(one (mayP W (str [44]) s).2).1]) (one (mayP W (str [44]) s).2).2).1
      rw [List.length_append, List.length_singleton] at h2
      omega
    · show l.length ≤ _; omega
theorem params_few (W : Wds) (s : PSt) : (procP W s).1.params.length ≤ 1 + (procP W s).2.at_ := by
  have hb := fun s => (up_block W W.fuel s).1
  have hf : ∀ s, s.at_ ≤ (fuelP W s).2.at_ := fun s => by
    rw [fuelP_eq]
    split
    · exact ((ge_may W _ s).trans (up_num W _)).1
    · exact Nat.le_refl _
  have hr : ∀ s, s.at_ ≤ (fromP W s).2.at_ := fun s => by
    unfold fromP
    split
    · exact ((ge_may W _ s).trans (up_name W _)).1
    · split
      · exact ((ge_may W _ s).trans (up_name W _)).1
      · exact Nat.le_refl _
  have hh : ∀ s, (headP W s).1.length ≤ 1 + (headP W s).2.at_ := fun s => by
    unfold headP
    split
    · simp
    · have h1 := len_listP W (up_param W) W.fuel [(paramP W s).1] (paramP W s).2
      have h2 := (up_listP W (up_param W) W.fuel [(paramP W s).1] (paramP W s).2).1
      show (listP W (paramP W) W.fuel [(paramP W s).1] (paramP W s).2).1.length ≤ 1 + (listP W (paramP W) W.fuel [(paramP W s).1] (paramP W s).2).2.at_
      rw [List.length_singleton] at h1
      omega
  rw [procP_eq]
  have h1 := hh (enterP (mustP W [str [40]] (nameP W (mustP W [str [112, 114, 111, 99]] s)).2))
  generalize headP W (enterP (mustP W [str [40]] (nameP W (mustP W [str [112, 114, 111, 99]] s)).2)) = l at *
  have h2 := ((ge_must W (str [41]) l.2).trans (ge_leave _)).1
  have h3 := hr (leaveP (mustP W [str [41]] l.2))
  have h4 := hf (fromP W (leaveP (mustP W [str [41]] l.2))).2
  have h5 := hb (fuelP W (fromP W (leaveP (mustP W [str [41]] l.2))).2).2
  show l.1.length ≤ 1 + (blockP W W.fuel (fuelP W (fromP W (leaveP (mustP W [str [41]] l.2))).2).2).2.at_
  omega

set_option maxHeartbeats 1000000 in
theorem rightProc_clo (F : Nat → Prop) (gx : Nat) (p : Pr) (row : List Value) (w : World) (hx : IsBlk w gx 25 row.toArray) (h : PrAt F 9000 w row p) (hbig : p.params.length ≤ 1000000) :
    Calls Tryz.prog 17 #[.pointer (some ⟨gx, 0, none⟩)] w fun e w' => e = .returned (.bool (rightB 9000 p)) ∧ Below w.heap.size w w' := by

  have hr := right_any F 9000 p row w h (by omega) hbig
  obtain ⟨_, _, _, _, Ap, np, cp, Ab, nb, cb, rfl, _⟩ := h

  obtain ⟨x0, x1, x2, x3, x4, x5, xl⟩ := cells6 hx
  generalize rightB 9000 p = q at *
  have Hr := Lib.hid hr
  clear hr hx
  go_enter Tryz.func17, Tryz.ntmps17
  go_wp2_with (fail)
  refine Hr.out.mono ?_
  rintro e w2 ⟨rfl, hb⟩
  have Hb := Lib.hid hb
  clear hb
  go_wp2
  go_ret
  exact ⟨rfl, Hb.out⟩
/-- what is told of a text that is taken -/
def SaidProc (gx : Nat) (w : World) (x : Pr × Int × Int) (e : Ending) (w' : World) : Prop := e = .returned (.tuple #[.int .i64 x.2.1, .int .i64 x.2.2]) ∧ But (fun k => k = gx) w w' ∧ (x.2.2 = 0 → (∃ row, IsBlk w' gx 25 row.toArray ∧ PrAt (Fr w) 9000 w' row x.1) ∧ x.1.params.length ≤ 1000000)
set_option maxRecDepth 100000 in
set_option maxHeartbeats 4000000 in
theorem parsedProc_any (s : ByteArray) (gx g0 : Nat) (w : World) (hx : IsBlk w gx 25 zeroP) (h0 : g0 < w.heap.size ∧ g0 ≠ gx) :
    Calls Tryz.prog 14 #[.string s, .func (.func 15) #[] #[.pointer (some ⟨gx, 0, none⟩)], .func (.func 17) #[] #[.pointer (some ⟨gx, 0, none⟩)]] w (SaidProc gx w (procX s.data.toList)) := by
  have hwd := lexWords_any s w
  have Hx := Lib.hid hx
  unfold WordsSaid at hwd
  rw [szl] at hwd
  rcases Nat.lt_or_ge 8000 s.size with h8 | h8
  · simp only [if_pos h8] at hwd
    have e : procX s.data.toList = (pr0, 0, 5) := textX_long (by rw [szl]; exact h8)
    rw [e]
    have Hwd := Lib.hid hwd
    clear hwd hx h0 h8 e
    go_enter Tryz.func14, Tryz.ntmps14
    go_wp2_with (fail)
    refine Hwd.out.mono ?_
    rintro e w1 ⟨rfl, hb⟩
    have Hb := Lib.hid hb
    clear hb
    go_wp2
    go_ret2
    exact ⟨rfl, But.of_below Hb.out, fun h => by cases h⟩
  · have h8n : ¬ 8000 < s.size := by omega
    simp only [if_neg h8n] at hwd
    cases hl : lexL s.data.toList with
    | inl a =>
      rw [hl] at hwd
      have e : procX s.data.toList = (pr0, (a : Int), 12) := textX_inl (by rw [szl]; exact h8n) hl
      rw [e]
      have Hwd := Lib.hid hwd
      clear hwd hx h0 h8 h8n e hl
      go_enter Tryz.func14, Tryz.ntmps14
      go_wp2_with (fail)
      refine Hwd.out.mono ?_
      rintro e w1 ⟨hS, hb⟩
      have hS : e = .returned (.tuple #[.slice none 0 0, .int .i64 a, .int .i64 12]) := hS
      subst hS
      have Hb := Lib.hid hb
      clear hb
      go_wp2
      go_ret2
      exact ⟨rfl, But.of_below Hb.out, fun h => by cases h⟩
    | inr ws =>
      rw [hl] at hwd
      have e : procX s.data.toList = endX pr0 (rightB 9000) ⟨ws, s.data.toList.length⟩ (procP ⟨ws, s.data.toList.length⟩ PSt.start) := textX_inr (by rw [szl]; exact h8n) hl
      rw [szl] at e
      rw [e]
      have Hwd := Lib.hid hwd
      obtain ⟨W, HW⟩ : ∃ W : Wds, Hid (W = ⟨ws, s.size⟩) := ⟨_, rfl⟩
      rw [← HW.out]
      have hWl : W.l = ws := by rw [HW.out]
      have hWe : W.end_ = s.size := by rw [HW.out]
      have HWl := Lib.hid (And.intro hWl hWe)
      have H8 := Lib.hid h8
      have H0 := Lib.hid h0
      clear hwd hx h0 h8 h8n e hl hWl hWe
      go_enter Tryz.func14, Tryz.ntmps14
      go_wp2_with (fail)
      refine Hwd.out.mono ?_
      rintro e w1 ⟨⟨A, c, rfl, hown, hok, hlen⟩, hb1⟩
      have hon := on_any w.heap.size g0 A c W w1 (by rw [HWl.out.1]; have := H8.out; omega) (by rw [HWl.out.1]; exact hown) (by rw [HWl.out.1]; exact hok) (by rw [HWl.out.2]; have := H8.out; unfold okI; omega) (Nat.lt_of_lt_of_le H0.out.1 hb1.size)
      rw [HWl.out.1, HWl.out.2] at hon
      have H1 := Lib.hid (And.intro hb1 hlen)
      have Hon := Lib.hid hon
      clear hown hok hlen hb1 hon
      go_wp2_with (fail)
      refine Hon.out.mono ?_
      rintro e w2 ⟨gc, gw, rfl, hcu, hgw, hgw2, hgc, hb2⟩
      have hx2 := (Hx.out.as_was (H1.out.1.block _ Hx.out.lt)).as_was (hb2.block _ (Nat.lt_of_lt_of_le Hx.out.lt H1.out.1.size))
      have hal := (Below.refl w2.heap.size w2).alloc (Nat.le_refl _) (.cells #[.pointer (some ⟨gc, 0, none⟩), .int .i64 0, .bool false, .bool false] 82)
      have hz1 := H1.out.1.size
      have hz2 := hb2.size
      have hz0 := H0.out
      have hzx := Hx.out.lt
      have hgcl := hcu.lt
      have hoff := hcu.off
      obtain ⟨gp, Hgp⟩ : ∃ gp, Hid (gp = w2.heap.size) := ⟨_, rfl⟩
      have hP : PAt gp gc gw W PSt.start (w2.alloc (.cells #[.pointer (some ⟨gc, 0, none⟩), .int .i64 0, .bool false, .bool false] 82)) := by
        rw [Hgp.out]
        exact ⟨IsBlk.laid _ _ _, hcu.below hal, by omega, by omega, by simp; omega⟩
      have hx3 := hx2.alloc (.cells #[.pointer (some ⟨gc, 0, none⟩), .int .i64 0, .bool false, .bool false] 82)
      have hb3 := H1.out.1.trans ((hb2.trans (hal.mono hz2)).mono hz1)
      obtain ⟨w3, Hw3⟩ : ∃ w3, Hid (w3 = w2.alloc (.cells #[.pointer (some ⟨gc, 0, none⟩), .int .i64 0, .bool false, .bool false] 82)) := ⟨_, rfl⟩
      rw [← Hw3.out] at hP hx3 hb3
      have hne : gp ≠ gx ∧ gc ≠ gx ∧ gw ≠ gx := by have := Hgp.out; refine ⟨by omega, by omega, ?_⟩; rcases hgw2 with e | e <;> omega
      have hfr : w.heap.size ≤ gp ∧ w.heap.size ≤ gc := by have := Hgp.out; omega
      have hW : W.l.length ≤ 1000000 := by rw [HWl.out.1]; have := H1.out.2; have := H8.out; omega
      have hclo := procClo_any gp gc gw gx W hW PSt.start w3 _ hP hx3 rfl hne
      have hat8 : ∀ t : PSt, t.at_ ≤ W.l.length → t.at_ ≤ 8000 := fun t ht => by rw [HWl.out.1] at ht; have := H1.out.2; have := H8.out; omega
      have hlow := fun w' row D (h : PrAt (Fr w3) D w' row (procP W PSt.start).1) (ht : (procP W PSt.start).2.at_ ≤ W.l.length) => proc_low W PSt.start h (by have := hat8 _ ht; omega)

      have hfew := fun (ht : (procP W PSt.start).2.at_ ≤ W.l.length) => (show (procP W PSt.start).1.params.length ≤ 1000000 by have := params_few W PSt.start; have := hat8 _ ht; omega)

      have H3 := Lib.hid (And.intro hP (And.intro hb3 (And.intro hne hfr)))
      generalize procP W PSt.start = r at *
      obtain ⟨p, t⟩ := r
      simp only at hlow hclo hfew
      have Hclo := Lib.hid hclo
      have Hlow := Lib.hid hlow

      have Hfew := Lib.hid hfew
      clear hfew

      clear hcu hgw hgw2 hgc hb2 hx2 hal hz1 hz2 hz0 hzx hgcl hoff hP hx3 hb3 hne hfr hclo hlow hat8 hW
      go_upto_region 5 with (fail)
      rw [← Hw3.out, ← Hgp.out]
      go_wp2_with (fail)
      refine Hclo.out.mono ?_
      rintro e w4 ⟨rfl, ⟨row, D, hxr, hpr⟩, hP, hB⟩
      obtain ⟨d0, d1, d2, d3, dg⟩ := cells4 hP.blk
      have hpr9 := Hlow.out w4 row D hpr hP.le
      have hB0 : But (fun k => k = gx) w w4 := (But.of_below H3.out.2.1).trans hB (fun i hi => by have := H3.out.2.2.2; rcases hi with e | e | e; exact .inr (by omega); exact .inr (by omega); exact .inl e)
      have H4 := Lib.hid (And.intro hP (And.intro hxr (And.intro hpr9 hB0)))
      clear hpr hpr9 hB hB0 hxr
      cases hov : t.over with
      | true =>
        rw [hov] at d2
        have e : endX pr0 (rightB 9000) W (p, t) = (pr0, 0, 14) := by unfold endX; rw [if_pos hov]
        have He := Lib.hid e
        clear hov e hP
        go_wp2
        go_ret2
        rw [He.out]
        exact ⟨rfl, H4.out.2.2.2, fun h => by cases h⟩
      | false =>
        rw [hov] at d2
        have hlf := left_any _ gc t.at_ W w4 hP.cu
        have hwo := fun w5 (h5 : PAt gp gc gw W t w5) => word_any _ gc t.at_ W w5 h5.cu
        have Hlf := Lib.hid hlf
        have Hwo := Lib.hid hwo
        clear hlf hwo
        have hbadE : (t.bad || decide (t.at_ < W.l.length)) = true → endX pr0 (rightB 9000) W (p, t) = (pr0, (W.look t.at_).at_, 12) := fun h => by
          unfold endX
          rw [if_neg (by rw [hov]; decide), if_pos h]
        have hfd : ∀ (a : Int) (b : ByteArray) (c d : Int) (W : World), (Instr.field 36 (.agg #[.int .i64 a, .string b, .int .i64 c, .int .i64 d]) 3).run Tryz.prog W = .ok (.int .i64 d) W := fun _ _ _ _ _ => by kernel_rfl
        cases hbad : t.bad with
        | true =>
          rw [hbad] at d3
          have e := hbadE (by rw [hbad]; rfl)
          have He := Lib.hid e
          generalize hlk : W.look t.at_ = y at *
          obtain ⟨yk, yt, yn, ya⟩ := y
          clear hov hbad e hbadE hP hlk
          simp only [wrow] at Hwo
          go_wp2_with (fail)
          refine (Hwo.out _ H4.out.1).mono ?_
          rintro e w5 ⟨rfl, hb5⟩
          have Hb5 := Lib.hid hb5
          clear hb5
          go_wp2
          go_ret2
          rw [He.out]
          exact ⟨rfl, H4.out.2.2.2.then_below Hb5.out, fun h => by cases h⟩
        | false =>
          rw [hbad] at d3
          rcases Nat.lt_or_ge t.at_ W.l.length with hlt | hge
          · have e := hbadE (by rw [hbad]; simpa using hlt)
            have He := Lib.hid e
            have hpos : (0 : Int) < ((W.l.length - t.at_ : Nat) : Int) := by omega
            generalize W.l.length - t.at_ = left at *
            generalize hlk : W.look t.at_ = y at *
            obtain ⟨yk, yt, yn, ya⟩ := y
            clear hov hbad e hbadE hP hlk hlt
            simp only [wrow] at Hwo
            go_wp2_with (fail)
            refine Hlf.out.mono ?_
            rintro e w5 ⟨rfl, hb5⟩
            have hP5 := H4.out.1.below hb5
            have Hb5 := Lib.hid (And.intro hP5 hb5)
            have hk5 := hP5.blk
            clear d0 d1 d2 d3 dg
            obtain ⟨d0, d1, d2, d3, dg⟩ := cells4 hk5
            clear hb5 hP5 hk5
            go_wp2_with (fail)
            refine (Hwo.out _ Hb5.out.1).mono ?_
            rintro e w6 ⟨rfl, hb6⟩
            have Hb6 := Lib.hid hb6
            clear hb6
            go_wp2
            go_ret2
            rw [He.out]
            exact ⟨rfl, (H4.out.2.2.2.then_below Hb5.out.2).then_below Hb6.out, fun h => by cases h⟩
          · have hz : W.l.length - t.at_ = 0 := by omega
            rw [hz] at Hlf
            have hend : endX pr0 (rightB 9000) W (p, t) = if rightB 9000 p then (p, 0, 0) else (pr0, 0, 14) := by
              unfold endX
              rw [if_neg (by rw [hov]; decide), if_neg (by rw [hbad]; simpa using hge)]

            have hf6 := Hfew.out hP.le
            have Hf6 := Lib.hid hf6
            have hrc := fun w5 (h5 : Below w4.heap.size w4 w5) => rightProc_clo (Fr w3) gx p row w5 (H4.out.2.1.as_was (h5.block _ H4.out.2.1.lt)) (H4.out.2.2.1.below h5) hf6

            have Hend := Lib.hid hend
            generalize rightB 9000 p = q at *
            have Hrc := Lib.hid hrc
            clear hov hbad hbadE hz hrc hP hge hend hf6
            cases q with
            | true =>
              have hend := Hend.out
              rw [if_pos rfl] at hend
              have He := Lib.hid hend
              clear hend
              go_wp2_with (fail)
              refine Hlf.out.mono ?_
              rintro e w5 ⟨rfl, hb5⟩
              have Hb5 := Lib.hid hb5
              clear hb5
              go_wp2_with (fail)
              refine (Hrc.out _ Hb5.out).mono ?_
              rintro e w6 ⟨rfl, hb6⟩
              have Hb6 := Lib.hid (Hb5.out.trans (hb6.mono Hb5.out.size))
              clear hb6
              go_wp2
              go_ret2
              rw [He.out]
              refine ⟨rfl, H4.out.2.2.2.then_below Hb6.out, fun _ => ⟨⟨row, H4.out.2.1.as_was (Hb6.out.block _ H4.out.2.1.lt), ?_⟩, Hf6.out⟩⟩
              exact PrAt.conv (fun k (hk : w3.heap.size ≤ k) => by show w.heap.size ≤ k; have := H3.out.2.1.size; omega) (Kept.of_below Hb6.out) (Nat.le_refl 9000) H4.out.2.2.1
            | false =>
              have hend := Hend.out
              rw [if_neg (by decide)] at hend
              have He := Lib.hid hend
              clear hend
              go_wp2_with (fail)
              refine Hlf.out.mono ?_
              rintro e w5 ⟨rfl, hb5⟩
              have Hb5 := Lib.hid hb5
              clear hb5
              go_wp2_with (fail)
              refine (Hrc.out _ Hb5.out).mono ?_
              rintro e w6 ⟨rfl, hb6⟩
              have Hb6 := Lib.hid (Hb5.out.trans (hb6.mono Hb5.out.size))
              clear hb6
              go_wp2
              go_ret2
              rw [He.out]
              exact ⟨rfl, H4.out.2.2.2.then_below Hb6.out, fun h => by cases h⟩
end Go.Proofs.YtlakeanldbdedaaGreat
