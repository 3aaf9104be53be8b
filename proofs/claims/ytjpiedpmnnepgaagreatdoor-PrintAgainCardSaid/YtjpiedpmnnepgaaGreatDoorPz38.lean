/- Parts of this proof, one behind the other: ParZ6, ParZ7, LwP, LxA, RtA, RtB. -/
import Derived.Test.YtjpiedpmnnepgaaGreatDoorPz37
import Derived.Test.YtjpiedpmnnepgaaGreatDoorPz7
import Derived.Test.YtjpiedpmnnepgaaGreatDoorPz11
import Derived.Test.YtjpiedpmnnepgaaGreatDoorPz34
set_option maxRecDepth 1000000
set_option maxHeartbeats 40000000
namespace Go.Proofs.YtjpiedpmnnepgaaGreatDoor
open Go.RowKit Go.Afx
def endX {α : Type} (z : α) (right : α → Bool) (W : Wds) (r : α × PSt) : α × Int × Int :=
 if r.2.over then (z, 0, 14) else if r.2.bad || decide (r.2.at_ < W.l.length) then (z, (W.look r.2.at_).at_, 12) else if right r.1 then (r.1, 0, 0) else (z, 0, 14)
def textX {α : Type} (z : α) (right : α → Bool) (run : Wds → PSt → α × PSt) (L : List UInt8) : α × Int × Int :=
 if 8000 < L.length then (z, 0, 5) else match lexL L with
  | .inl a => (z, (a : Int), 12)
  | .inr ws => endX z right ⟨ws, L.length⟩ (run ⟨ws, L.length⟩ PSt.start)
def pr0 : Pr := ⟨nil0, nil0, nil0, 0, [], []⟩
def procX (L : List UInt8) : Pr × Int × Int := textX pr0 (rightB 9000) procP L
theorem textX_long {α : Type} {z : α} {right : α → Bool} {run : Wds → PSt → α × PSt} {L : List UInt8} (h : 8000 < L.length) : textX z right run L = (z, 0, 5) := by unfold textX; rw [if_pos h]
theorem textX_inl {α : Type} {z : α} {right : α → Bool} {run : Wds → PSt → α × PSt} {L : List UInt8} {a : Nat} (h : ¬ 8000 < L.length) (hl : lexL L = .inl a) : textX z right run L = (z, (a : Int), 12) := by unfold textX; rw [if_neg h, hl]
theorem textX_inr {α : Type} {z : α} {right : α → Bool} {run : Wds → PSt → α × PSt} {L : List UInt8} {ws : List Wd} (h : ¬ 8000 < L.length) (hl : lexL L = .inr ws) : textX z right run L = endX z right ⟨ws, L.length⟩ (run ⟨ws, L.length⟩ PSt.start) := by unfold textX; rw [if_neg h, hl]
theorem len_listP {α : Type} (W : Wds) {one : PSt → α × PSt} (hU : ∀ s, Ge s (one s).2) : ∀ (k : Nat) (l : List α) (s : PSt), (listP W one k l s).1.length ≤ l.length + ((listP W one k l s).2.at_ - s.at_) := by
 intro k
 induction k with
 | zero => intro l s; show l.length ≤ _; omega
 | succ k ih =>
  intro l s
  unfold listP
  split
  ·rename_i h
   have h0 : (mayP W (str [44]) s).2.at_ = s.at_ + 1 := by rw [(may_yes h).1]; rfl
   have h1 := (hU (mayP W (str [44]) s).2).1
   have h2 := ih (l ++ [(one (mayP W (str [44]) s).2).1]) (one (mayP W (str [44]) s).2).2
   have h3 := (up_listP W hU k (l ++ [(one (mayP W (str [44]) s).2).1]) (one (mayP W (str [44]) s).2).2).1
   rw [List.length_append, List.length_singleton] at h2
   omega
  ·show l.length ≤ _; omega
theorem params_few (W : Wds) (s : PSt) : (procP W s).1.params.length ≤ 1 + (procP W s).2.at_ := by
 have hb := fun s => (up_block W W.fuel s).1
 have hf : ∀ s, s.at_ ≤ (fuelP W s).2.at_ := fun s => by
  rw [fuelP_eq]
  split
  ·exact ((ge_may W _ s).trans (up_num W _)).1
  ·exact Nat.le_refl _
 have hr : ∀ s, s.at_ ≤ (fromP W s).2.at_ := fun s => by
  unfold fromP
  split
  ·exact ((ge_may W _ s).trans (up_name W _)).1
  ·split
   ·exact ((ge_may W _ s).trans (up_name W _)).1
   ·exact Nat.le_refl _
 have hh : ∀ s, (headP W s).1.length ≤ 1 + (headP W s).2.at_ := fun s => by
  unfold headP
  split
  ·simp
  ·have h1 := len_listP W (up_param W) W.fuel [(paramP W s).1] (paramP W s).2
   have h2 := (up_listP W (up_param W) W.fuel [(paramP W s).1] (paramP W s).2).1
   show (listP W (paramP W) W.fuel [(paramP W s).1] (paramP W s).2).1.length ≤ 1 + (listP W (paramP W) W.fuel [(paramP W s).1] (paramP W s).2).2.at_
   rw [List.length_singleton] at h1
   omega
 rw [procP_eq]
 have h1 := hh (enterP (mustP W [str [40]] (nameP W (mustP W [str [112, 114, 111, 99]] s)).2))
 generalize headP W (enterP (mustP W [str [40]] (nameP W (mustP W [str [112, 114, 111, 99]] s)).2)) = l at *
 have h2 := ((ge_must W (str [41]) l.2).trans (ge_leave _)).1
 have h3 := hr (leaveP (mustP W [str [41]] l.2))
 have h4 := hf (fromP W (leaveP (mustP W [str [41]] l.2))).2
 have h5 := hb (fuelP W (fromP W (leaveP (mustP W [str [41]] l.2))).2).2
 show l.1.length ≤ 1 + (blockP W W.fuel (fuelP W (fromP W (leaveP (mustP W [str [41]] l.2))).2).2).2.at_
 omega
theorem rightProc_clo (F : Nat → Prop) (gx : Nat) (p : Pr) (row : List Value) (w : World) (hx : IsBlk w gx 50 row.toArray) (h : PrAt F 9000 w row p) (hbig : p.params.length ≤ 1000000) :
  Calls Tryz.prog 39 #[.pointer (some ⟨gx, 0, none⟩)] w fun e w' => e = .returned (.bool (rightB 9000 p)) ∧ Below w.heap.size w w' := by
 have hr := right_any F 9000 p row w h (by omega) hbig
 obtain ⟨_, _, _, _, Ap, np, cp, Ab, nb, cb, rfl, _⟩ := h
 obtain ⟨x0, x1, x2, x3, x4, x5, xl⟩ := cells6 hx
 generalize rightB 9000 p = q at *
 have Hr := Lhd hr
 clear hr hx
 go_enter Tryz.func39, Tryz.ntmps39
 go_wp2_with (fail)
 refine Hr.out.mono ?_
 rintro e w2 ⟨rfl, hb⟩
 have Hb := Lhd hb
 clear hb
 go_wp2
 go_ret
 exact ⟨rfl, Hb.out⟩
def SaidProc (gx : Nat) (w : World) (x : Pr × Int × Int) (e : Ending) (w' : World) : Prop := e = .returned (.tuple #[.int .i64 x.2.1, .int .i64 x.2.2]) ∧ But (fun k => k = gx) w w' ∧ (x.2.2 = 0 → (∃ row, IsBlk w' gx 50 row.toArray ∧ PrAt (Fr w) 9000 w' row x.1) ∧ x.1.params.length ≤ 1000000)
theorem parsedProc_any (s : ByteArray) (gx g0 : Nat) (w : World) (hx : IsBlk w gx 50 zeroP) (h0 : g0 < w.heap.size ∧ g0 ≠ gx) :
  Calls Tryz.prog 23 #[.string s, .func (.func 37) #[] #[.pointer (some ⟨gx, 0, none⟩)], .func (.func 39) #[] #[.pointer (some ⟨gx, 0, none⟩)]] w (SaidProc gx w (procX s.data.toList)) := by
 have hwd := lexWords_any s w
 have Hx := Lhd hx
 unfold WordsSaid at hwd
 rw [szl] at hwd
 rcases Nat.lt_or_ge 8000 s.size with h8 | h8
 ·simp only [if_pos h8] at hwd
  have e : procX s.data.toList = (pr0, 0, 5) := textX_long (by rw [szl]; exact h8)
  rw [e]
  have Hwd := Lhd hwd
  clear hwd hx h0 h8 e
  go_enter Tryz.func23, Tryz.ntmps23
  go_wp2_with (fail)
  refine Hwd.out.mono ?_
  rintro e w1 ⟨rfl, hb⟩
  have Hb := Lhd hb
  clear hb
  go_wp2
  go_ret2
  exact ⟨rfl, But.of_below Hb.out, fun h => by cases h⟩
 ·have h8n : ¬ 8000 < s.size := by omega
  simp only [if_neg h8n] at hwd
  cases hl : lexL s.data.toList with
  | inl a =>
   rw [hl] at hwd
   have e : procX s.data.toList = (pr0, (a : Int), 12) := textX_inl (by rw [szl]; exact h8n) hl
   rw [e]
   have Hwd := Lhd hwd
   clear hwd hx h0 h8 h8n e hl
   go_enter Tryz.func23, Tryz.ntmps23
   go_wp2_with (fail)
   refine Hwd.out.mono ?_
   rintro e w1 ⟨hS, hb⟩
   have hS : e = .returned (.tuple #[.slice none 0 0, .int .i64 a, .int .i64 12]) := hS
   subst hS
   have Hb := Lhd hb
   clear hb
   go_wp2
   go_ret2
   exact ⟨rfl, But.of_below Hb.out, fun h => by cases h⟩
  | inr ws =>
   rw [hl] at hwd
   have e : procX s.data.toList = endX pr0 (rightB 9000) ⟨ws, s.data.toList.length⟩ (procP ⟨ws, s.data.toList.length⟩ PSt.start) := textX_inr (by rw [szl]; exact h8n) hl
   rw [szl] at e
   rw [e]
   have Hwd := Lhd hwd
   obtain ⟨W, HW⟩ : ∃ W : Wds, Hid (W = ⟨ws, s.size⟩) := ⟨_, rfl⟩
   rw [← HW.out]
   have hWl : W.l = ws := by rw [HW.out]
   have hWe : W.end_ = s.size := by rw [HW.out]
   have HWl := Lhd (And.intro hWl hWe)
   have H8 := Lhd h8
   have H0 := Lhd h0
   clear hwd hx h0 h8 h8n e hl hWl hWe
   go_enter Tryz.func23, Tryz.ntmps23
   go_wp2_with (fail)
   refine Hwd.out.mono ?_
   rintro e w1 ⟨⟨A, c, rfl, hown, hok, hlen⟩, hb1⟩
   have hon := on_any w.heap.size g0 A c W w1 (by rw [HWl.out.1]; have := H8.out; omega) (by rw [HWl.out.1]; exact hown) (by rw [HWl.out.1]; exact hok) (by rw [HWl.out.2]; have := H8.out; unfold okI; omega) (Nat.lt_of_lt_of_le H0.out.1 hb1.size)
   rw [HWl.out.1, HWl.out.2] at hon
   have H1 := Lhd (And.intro hb1 hlen)
   have Hon := Lhd hon
   clear hown hok hlen hb1 hon
   go_wp2_with (fail)
   refine Hon.out.mono ?_
   rintro e w2 ⟨gc, gw, rfl, hcu, hgw, hgw2, hgc, hb2⟩
   have hx2 := (Hx.out.as_was (H1.out.1.block _ Hx.out.lt)).as_was (hb2.block _ (Nat.lt_of_lt_of_le Hx.out.lt H1.out.1.size))
   have hal := (Below.refl w2.heap.size w2).alloc (Nat.le_refl _) (.cells #[.pointer (some ⟨gc, 0, none⟩), .int .i64 0, .bool false, .bool false] 124)
   have hz1 := H1.out.1.size
   have hz2 := hb2.size
   have hz0 := H0.out
   have hzx := Hx.out.lt
   have hgcl := hcu.lt
   have hoff := hcu.off
   obtain ⟨gp, Hgp⟩ : ∃ gp, Hid (gp = w2.heap.size) := ⟨_, rfl⟩
   have hP : PAt gp gc gw W PSt.start (w2.alloc (.cells #[.pointer (some ⟨gc, 0, none⟩), .int .i64 0, .bool false, .bool false] 124)) := by
    rw [Hgp.out]
    exact ⟨IsBlk.laid _ _ _, hcu.below hal, by omega, by omega, by simp; omega⟩
   have hx3 := hx2.alloc (.cells #[.pointer (some ⟨gc, 0, none⟩), .int .i64 0, .bool false, .bool false] 124)
   have hb3 := H1.out.1.trans ((hb2.trans (hal.mono hz2)).mono hz1)
   obtain ⟨w3, Hw3⟩ : ∃ w3, Hid (w3 = w2.alloc (.cells #[.pointer (some ⟨gc, 0, none⟩), .int .i64 0, .bool false, .bool false] 124)) := ⟨_, rfl⟩
   rw [← Hw3.out] at hP hx3 hb3
   have hne : gp ≠ gx ∧ gc ≠ gx ∧ gw ≠ gx := by have := Hgp.out; refine ⟨by omega, by omega, ?_⟩; rcases hgw2 with e | e <;> omega
   have hfr : w.heap.size ≤ gp ∧ w.heap.size ≤ gc := by have := Hgp.out; omega
   have hW : W.l.length ≤ 1000000 := by rw [HWl.out.1]; have := H1.out.2; have := H8.out; omega
   have hclo := procClo_any gp gc gw gx W hW PSt.start w3 _ hP hx3 rfl hne
   have hat8 : ∀ t : PSt, t.at_ ≤ W.l.length → t.at_ ≤ 8000 := fun t ht => by rw [HWl.out.1] at ht; have := H1.out.2; have := H8.out; omega
   have hlow := fun w' row D (h : PrAt (Fr w3) D w' row (procP W PSt.start).1) (ht : (procP W PSt.start).2.at_ ≤ W.l.length) => proc_low W PSt.start h (by have := hat8 _ ht; omega)
   have hfew := fun (ht : (procP W PSt.start).2.at_ ≤ W.l.length) => (show (procP W PSt.start).1.params.length ≤ 1000000 by have := params_few W PSt.start; have := hat8 _ ht; omega)
   have H3 := Lhd (And.intro hP (And.intro hb3 (And.intro hne hfr)))
   generalize procP W PSt.start = r at *
   obtain ⟨p, t⟩ := r
   simp only at hlow hclo hfew
   have Hclo := Lhd hclo
   have Hlow := Lhd hlow
   have Hfew := Lhd hfew
   clear hfew
   clear hcu hgw hgw2 hgc hb2 hx2 hal hz1 hz2 hz0 hzx hgcl hoff hP hx3 hb3 hne hfr hclo hlow hat8 hW
   go_upto_region 5 with (fail)
   rw [← Hw3.out, ← Hgp.out]
   go_wp2_with (fail)
   refine Hclo.out.mono ?_
   rintro e w4 ⟨rfl, ⟨row, D, hxr, hpr⟩, hP, hB⟩
   obtain ⟨d0, d1, d2, d3, dg⟩ := cells4 hP.blk
   have hpr9 := Hlow.out w4 row D hpr hP.le
   have hB0 : But (fun k => k = gx) w w4 := (But.of_below H3.out.2.1).trans hB (fun i hi => by have := H3.out.2.2.2; rcases hi with e | e | e; exact .inr (by omega); exact .inr (by omega); exact .inl e)
   have H4 := Lhd (And.intro hP (And.intro hxr (And.intro hpr9 hB0)))
   clear hpr hpr9 hB hB0 hxr
   cases hov : t.over with
   | true =>
    rw [hov] at d2
    have e : endX pr0 (rightB 9000) W (p, t) = (pr0, 0, 14) := by unfold endX; rw [if_pos hov]
    have He := Lhd e
    clear hov e hP
    go_wp2
    go_ret2
    rw [He.out]
    exact ⟨rfl, H4.out.2.2.2, fun h => by cases h⟩
   | false =>
    rw [hov] at d2
    have hlf := left_any _ gc t.at_ W w4 hP.cu
    have hwo := fun w5 (h5 : PAt gp gc gw W t w5) => word_any _ gc t.at_ W w5 h5.cu
    have Hlf := Lhd hlf
    have Hwo := Lhd hwo
    clear hlf hwo
    have hbadE : (t.bad || decide (t.at_ < W.l.length)) = true → endX pr0 (rightB 9000) W (p, t) = (pr0, (W.look t.at_).at_, 12) := fun h => by
     unfold endX
     rw [if_neg (by rw [hov]; decide), if_pos h]
    have hfd : ∀ (a : Int) (b : ByteArray) (c d : Int) (W : World), (Instr.field 126 (.agg #[.int .i64 a, .string b, .int .i64 c, .int .i64 d]) 3).run Tryz.prog W = .ok (.int .i64 d) W := fun _ _ _ _ _ => by kernel_rfl
    cases hbad : t.bad with
    | true =>
     rw [hbad] at d3
     have e := hbadE (by rw [hbad]; rfl)
     have He := Lhd e
     generalize hlk : W.look t.at_ = y at *
     obtain ⟨yk, yt, yn, ya⟩ := y
     clear hov hbad e hbadE hP hlk
     simp only [wrow] at Hwo
     go_wp2_with (fail)
     refine (Hwo.out _ H4.out.1).mono ?_
     rintro e w5 ⟨rfl, hb5⟩
     have Hb5 := Lhd hb5
     clear hb5
     go_wp2
     go_ret2
     rw [He.out]
     exact ⟨rfl, H4.out.2.2.2.then_below Hb5.out, fun h => by cases h⟩
    | false =>
     rw [hbad] at d3
     rcases Nat.lt_or_ge t.at_ W.l.length with hlt | hge
     ·have e := hbadE (by rw [hbad]; simpa using hlt)
      have He := Lhd e
      have hpos : (0 : Int) < ((W.l.length - t.at_ : Nat) : Int) := by omega
      generalize W.l.length - t.at_ = left at *
      generalize hlk : W.look t.at_ = y at *
      obtain ⟨yk, yt, yn, ya⟩ := y
      clear hov hbad e hbadE hP hlk hlt
      simp only [wrow] at Hwo
      go_wp2_with (fail)
      refine Hlf.out.mono ?_
      rintro e w5 ⟨rfl, hb5⟩
      have hP5 := H4.out.1.below hb5
      have Hb5 := Lhd (And.intro hP5 hb5)
      have hk5 := hP5.blk
      clear d0 d1 d2 d3 dg
      obtain ⟨d0, d1, d2, d3, dg⟩ := cells4 hk5
      clear hb5 hP5 hk5
      go_wp2_with (fail)
      refine (Hwo.out _ Hb5.out.1).mono ?_
      rintro e w6 ⟨rfl, hb6⟩
      have Hb6 := Lhd hb6
      clear hb6
      go_wp2
      go_ret2
      rw [He.out]
      exact ⟨rfl, (H4.out.2.2.2.then_below Hb5.out.2).then_below Hb6.out, fun h => by cases h⟩
     ·have hz : W.l.length - t.at_ = 0 := by omega
      rw [hz] at Hlf
      have hend : endX pr0 (rightB 9000) W (p, t) = if rightB 9000 p then (p, 0, 0) else (pr0, 0, 14) := by
       unfold endX
       rw [if_neg (by rw [hov]; decide), if_neg (by rw [hbad]; simpa using hge)]
      have hf6 := Hfew.out hP.le
      have Hf6 := Lhd hf6
      have hrc := fun w5 (h5 : Below w4.heap.size w4 w5) => rightProc_clo (Fr w3) gx p row w5 (H4.out.2.1.as_was (h5.block _ H4.out.2.1.lt)) (H4.out.2.2.1.below h5) hf6
      have Hend := Lhd hend
      generalize rightB 9000 p = q at *
      have Hrc := Lhd hrc
      clear hov hbad hbadE hz hrc hP hge hend hf6
      cases q with
      | true =>
       have hend := Hend.out
       rw [if_pos rfl] at hend
       have He := Lhd hend
       clear hend
       go_wp2_with (fail)
       refine Hlf.out.mono ?_
       rintro e w5 ⟨rfl, hb5⟩
       have Hb5 := Lhd hb5
       clear hb5
       go_wp2_with (fail)
       refine (Hrc.out _ Hb5.out).mono ?_
       rintro e w6 ⟨rfl, hb6⟩
       have Hb6 := Lhd (Hb5.out.trans (hb6.mono Hb5.out.size))
       clear hb6
       go_wp2
       go_ret2
       rw [He.out]
       refine ⟨rfl, H4.out.2.2.2.then_below Hb6.out, fun _ => ⟨⟨row, H4.out.2.1.as_was (Hb6.out.block _ H4.out.2.1.lt), ?_⟩, Hf6.out⟩⟩
       exact PrAt.conv (fun k (hk : w3.heap.size ≤ k) => by show w.heap.size ≤ k; have := H3.out.2.1.size; omega) (Kept.of_below Hb6.out) (Nat.le_refl 9000) H4.out.2.2.1
      | false =>
       have hend := Hend.out
       rw [if_neg (by decide)] at hend
       have He := Lhd hend
       clear hend
       go_wp2_with (fail)
       refine Hlf.out.mono ?_
       rintro e w5 ⟨rfl, hb5⟩
       have Hb5 := Lhd hb5
       clear hb5
       go_wp2_with (fail)
       refine (Hrc.out _ Hb5.out).mono ?_
       rintro e w6 ⟨rfl, hb6⟩
       have Hb6 := Lhd (Hb5.out.trans (hb6.mono Hb5.out.size))
       clear hb6
       go_wp2
       go_ret2
       rw [He.out]
       exact ⟨rfl, H4.out.2.2.2.then_below Hb6.out, fun h => by cases h⟩
theorem textX_right {α : Type} {z : α} {right : α → Bool} {run : Wds → PSt → α × PSt} {L : List UInt8} (h : (textX z right run L).2.2 = 0) : right (textX z right run L).1 = true := by
 unfold textX at h ⊢
 split at h
 ·cases h
 ·rename_i h8
  rw [if_neg h8]
  split at h
  ·cases h
  ·rename_i ws hl
   unfold endX at h ⊢
   simp only
   split at h
   ·cases h
   ·rename_i h1
    rw [if_neg h1]
    split at h
    ·cases h
    ·rename_i h2
     rw [if_neg h2]
     split at h
     ·rename_i h3; rw [if_pos h3]; exact h3
     ·cases h
theorem textX_zero {α : Type} (z : α) (right : α → Bool) (run : Wds → PSt → α × PSt) (L : List UInt8) : ((textX z right run L).2.2 = 0 → (textX z right run L).2.1 = 0) ∧ ((textX z right run L).2.2 ≠ 0 → (textX z right run L).1 = z) := by
 unfold textX
 split
 ·exact ⟨fun h => (by cases h), fun _ => rfl⟩
 ·split
  ·exact ⟨fun h => (by cases h), fun _ => rfl⟩
  ·unfold endX
   split
   ·exact ⟨fun h => (by cases h), fun _ => rfl⟩
   ·split
    ·exact ⟨fun h => (by cases h), fun _ => rfl⟩
    ·split
     ·exact ⟨fun _ => rfl, fun h => absurd rfl h⟩
     ·exact ⟨fun h => (by cases h), fun _ => rfl⟩
theorem ret_Proc3 {fn : Func} {p u v : Tmp} {tmps : Array Value} {w : World} {g : Nat} {t : TypeId} {cs : Array Value} {x y : Value} (h : fn.results = #[.cell p 50, .tmp u, .tmp v]) (hp : tmps.getD p undef = .pointer (some ⟨g, 0, none⟩)) (hk : IsBlk w g t cs) (hz : cs.size = 6) (hv : tmps.getD u undef = x) (hy : tmps.getD v undef = y) : (results fn tmps).run Tryz.prog w = .ok (.tuple #[.agg cs, x, y]) w := by
 have h2 := run_loadVar_row (P := Tryz.prog) w g t 50 cs (0, 0) _ hk Tryz.underlying50 rfl (by rw [hz]; exact sizePr)
 simp only [results, h]
 have e1 : tmps[p]?.getD undef = .pointer (some ⟨g, 0, none⟩) := by simpa using hp
 have e2 : tmps[u]?.getD undef = x := by simpa using hv
 have e3 : tmps[v]?.getD undef = y := by simpa using hy
 simp [Result.andThen, e1, e2, e3, asAddr, h2]
def ProcGives (w : World) (x : Pr × Int × Int) (e : Ending) (w' : World) : Prop := (∃ row, e = .returned (.tuple #[.agg row.toArray, .int .i64 x.2.1, .int .i64 x.2.2]) ∧ PrAt (Fr w) 9000 w' row x.1) ∧ Below w.heap.size w w' ∧ x.1.params.length ≤ 1000000
theorem pr0_at (F : Nat → Prop) (w : World) : PrAt F 9000 w [.string ⟨#[]⟩, .string ⟨#[]⟩, .string ⟨#[]⟩, .int .i64 0, .slice none 0 0, .slice none 0 0] pr0 := ⟨okS_0, okS_0, okS_0, okI_0, none, 0, 0, none, 0, 0, rfl, LsAt.nil_ _ _ _ _, sts_nil _ _ _⟩
theorem parseProc_any (s : ByteArray) (w : World) : Calls Tryz.prog 15 #[.string s] w (ProcGives w (procX s.data.toList)) := by
 obtain ⟨w1, Hw1⟩ : ∃ w1, Hid (w1 = (w.alloc (.cells zeroP 50)).alloc (.cells zeroP 50)) := ⟨_, rfl⟩
 have hb1 : Below w.heap.size w w1 := by rw [Hw1.out]; exact ((Below.refl _ _).alloc (Nat.le_refl _) _).alloc (by simp) _
 have hkr : IsBlk w1 w.heap.size 50 zeroP := by rw [Hw1.out]; exact (IsBlk.laid _ _ _).alloc _
 have hkx : IsBlk w1 (w.heap.size + 1) 50 zeroP := by rw [Hw1.out]; exact blk_new (by simp)
 have hsz : w1.heap.size = w.heap.size + 2 := by rw [Hw1.out]; simp
 have hp := parsedProc_any s (w.heap.size + 1) w.heap.size w1 hkx (by omega)
 have hz := textX_zero pr0 (rightB 9000) procP s.data.toList
 have hz : ((procX s.data.toList).2.2 = 0 → (procX s.data.toList).2.1 = 0) ∧ ((procX s.data.toList).2.2 ≠ 0 → (procX s.data.toList).1 = pr0) := hz
 generalize procX s.data.toList = x at *
 obtain ⟨p, at_, er⟩ := x
 simp only at hz
 have Hp := Lhd hp
 have Hz := Lhd hz
 have Hk := Lhd (And.intro hb1 (And.intro hkr hsz))
 clear hp hz hb1 hkr hkx hsz
 go_enter Tryz.func15, Tryz.ntmps15
 go_upto_region 2 with (fail)
 rw [← Hw1.out]
 go_wp2_with (fail)
 refine Hp.out.mono ?_
 rintro e w2 ⟨rfl, hB, hpr⟩
 have hsz := Hk.out.2.2
 have hkr2 := Hk.out.2.1.as_was (hB.block _ Hk.out.2.1.lt (by omega))
 obtain ⟨x0, x1, x2, x3, x4, x5, xl⟩ := cells6 hkr2
 have f2 := hkr2.frozen
 have hb2 : Below w.heap.size w w2 := Hk.out.1.trans (hB.below' (by omega) (fun i hi => by omega))
 have H2 := Lhd (And.intro hkr2 hb2)
 have Hpr := Lhd hpr
 clear hB hpr hsz hkr2 hb2
 have hlay : ∀ (v0 v1 v2 v3 v4 v5 : Value), Below w.heap.size w (lay6 w2 w.heap.size v0 v1 v2 v3 v4 v5) := fun v0 v1 v2 v3 v4 v5 => H2.out.2.trans ((lay6_but w2 w.heap.size v0 v1 v2 v3 v4 v5).below' H2.out.2.size (fun i hi => by omega))
 have Hlay := Lhd hlay
 clear hlay
 rcases Classical.em (er = 0) with he | he
 ·have q0 : (er == 0) = true := by rw [beq_iff_eq]; exact he
  have q1 : (er != 0) = false := by simp [he]
  obtain ⟨⟨row, hkx, hpr⟩, hfew⟩ := Hpr.out he
  have hat := Hz.out.1 he
  subst hat
  subst he
  have hprw := hpr
  obtain ⟨_, _, _, _, Ap, np, cp, Ab, nb, cb, rfl, _⟩ := hprw
  obtain ⟨y0, y1, y2, y3, y4, y5, yl⟩ := cells6 hkx
  have Hpr2 := Lhd hpr
  have Hfew := Lhd hfew
  clear hfew
  clear hpr hkx q0 q1
  go_wp2
  rw [lay6_eq]
  refine bodyPost_ret (ret_Proc3 Tryz.results15 rfl (lay6_blk _ _ _ _ _ _ H2.out.1) rfl rfl rfl) rfl ⟨⟨_, rfl, ?_⟩, Hlay.out _ _ _ _ _ _, Hfew.out⟩
  exact PrAt.conv (fun k (hk : w1.heap.size ≤ k) => by show w.heap.size ≤ k; have := Hk.out.2.2; omega) (Kept.of_but (lay6_but w2 w.heap.size _ _ _ _ _ _) fun k (hk : w1.heap.size ≤ k) e => by have := Hk.out.2.2; omega) (Nat.le_refl 9000) Hpr2.out
 ·have q1 : (er != 0) = true := by simpa using he
  have q0 : (er == 0) = false := by simpa using he
  have hz := Hz.out.2 he
  subst hz
  clear he
  go_wp2
  rw [lay6_eq]
  exact bodyPost_ret (ret_Proc3 Tryz.results15 rfl (lay6_blk _ _ _ _ _ _ H2.out.1) rfl rfl rfl) rfl ⟨⟨_, rfl, pr0_at _ _⟩, Hlay.out _ _ _ _ _ _, Nat.zero_le _⟩
def NoBlank (L : List UInt8) (k : Nat) : Prop := k < L.length ∧ ∃ c, L[k]? = some c ∧ wsB c = false
def PosSaid (L : List UInt8) (at_ er : Int) : Prop :=
 (er = 0 ∧ at_ = 0) ∨ (er = 5 ∧ at_ = 0 ∧ 8000 < L.length) ∨ (er = 14 ∧ at_ = 0 ∧ ¬ 8000 < L.length) ∨ (er = 12 ∧ ∃ k : Nat, at_ = k ∧ (k = L.length ∨ NoBlank L k))
def key (x : Wd) : Int × ByteArray × Int := (x.kind, x.text, x.n)
def keyX (x : Nx) : Int × ByteArray × Int := (x.kind, str x.text, x.n)
inductive LexR : List UInt8 → List (Int × ByteArray × Int) → Prop
 | nil : LexR [] []
 | cons {s : List UInt8} {x : Nx} {ks : List (Int × ByteArray × Int)} (hs : s ≠ []) (hx : nextX s = some x) (h : LexR ((s.drop x.len).drop (blk false (s.drop x.len))) ks) : LexR s (keyX x :: ks)
def LexB (s : List UInt8) (ks : List (Int × ByteArray × Int)) : Prop := LexR (s.drop (blk false s)) ks
theorem lexH_of {s : List UInt8} {ks : List (Int × ByteArray × Int)} (h : LexR s ks) : ∀ (f a : Nat), s.length < f → ∃ ws, lexH f a s = .inr ws ∧ ws.map key = ks := by
 induction h with
 | nil =>
  intro f a hf
  obtain ⟨f, rfl⟩ : ∃ k, f = k + 1 := ⟨f - 1, by omega⟩
  exact ⟨[], rfl, rfl⟩
 | @cons s x ks hs hx h ih =>
  intro f a hf
  obtain ⟨f, rfl⟩ : ∃ k, f = k + 1 := ⟨f - 1, by omega⟩
  obtain ⟨l1, l2⟩ := next_len hx
  obtain ⟨ws, h1, h2⟩ := ih f (a + x.len + blk false (s.drop x.len)) (by rw [List.length_drop, List.length_drop]; omega)
  refine ⟨⟨x.kind, str x.text, x.n, a⟩ :: ws, ?_, by rw [List.map_cons, h2]; rfl⟩
  rw [lexH_go _ _ _ hs, hx]
  simp only
  rw [h1]
  rfl
theorem lexL_of {L : List UInt8} {ks : List (Int × ByteArray × Int)} (h : LexB L ks) : ∃ ws, lexL L = .inr ws ∧ ws.map key = ks := lexH_of h _ _ (by rw [List.length_drop]; omega)
/- what stands behind -/
theorem nextX_cons (a : UInt8) (r : List UInt8) : nextX (a :: r) = if lexB a then plainX (a :: r) else if a.toNat = 39 then quotedX (a :: r) else signX (a :: r) := by simp [nextX]
def tailT : List UInt8 := [41, 32, 47, 47, 32, 41, 32, 109, 111, 114, 101, 10]
def wrapT (s : List UInt8) : List UInt8 := 32 :: 40 :: 32 :: (s ++ 32 :: 10 :: tailT)
end Go.Proofs.YtjpiedpmnnepgaaGreatDoor
namespace Go.Afx
open Go.RowKit
abbrev Key := Int × ByteArray × Int
def Wd.key (x : Wd) : Key := (x.kind, x.text, x.n)
def sgK (t : List UInt8) : Key := (0, str t, 0)
def nmK (t : List UInt8) : Key := (3, str t, 0)
def idK (b : ByteArray) : Key := (3, b, 0)
def keySays (k : Key) (t : ByteArray) : Bool := (decide (k.1 = 0) || decide (k.1 = 3)) && decide (k.2.1 = t)
def headK (ks : List Key) : Key := ks.head?.getD (4, str [], 0)
def At (W : Wds) (i : Nat) (ks : List Key) : Prop := (W.l.drop i).map Wd.key = ks ∧ i ≤ W.l.length
def stK (i : Nat) (k : Int) : PSt := ⟨i, k, false, false⟩
theorem At.look {W : Wds} {i : Nat} {ks : List Key} (h : At W i ks) : (W.look i).key = headK ks := by
 obtain ⟨rfl, _⟩ := h
 unfold headK Wds.look
 rw [List.head?_map, List.head?_drop]
 cases W.l[i]? <;> rfl
theorem At.next {W : Wds} {i : Nat} {k : Key} {ks : List Key} (h : At W i (k :: ks)) : At W (i + 1) ks := by
 obtain ⟨h1, h2⟩ := h
 have h3 : i < W.l.length := by
  rcases Nat.lt_or_ge i W.l.length with h3 | h3
  ·exact h3
  ·rw [List.drop_eq_nil_of_le h3] at h1; cases h1
 rw [List.drop_eq_getElem_cons h3] at h1
 exact ⟨(List.cons.inj h1).2, h3⟩
theorem At.skip {W : Wds} : ∀ {a : List Key} {i : Nat} {ks : List Key}, At W i (a ++ ks) → At W (i + a.length) ks := by
 intro a
 induction a with
 | nil => intro i ks h; exact h
 | cons k a ih =>
  intro i ks h
  have := ih (At.next h)
  rw [List.length_cons, show i + (a.length + 1) = i + 1 + a.length by omega]
  exact this
theorem At.len {W : Wds} {i : Nat} {ks : List Key} (h : At W i ks) : i + ks.length = W.l.length := by
 obtain ⟨rfl, h⟩ := h
 rw [List.length_map, List.length_drop]; omega
section
variable {W : Wds} {i : Nat} {ks : List Key} {k : Int}
theorem isP_at (h : At W i ks) (t : ByteArray) : isP W (stK i k) t = keySays (headK ks) t := by
 have := h.look
 unfold isP Wd.says keySays
 rw [← this]
 rfl
theorem mayP_at (h : At W i ks) (t : ByteArray) : mayP W t (stK i k) = if keySays (headK ks) t then (true, stK (i + 1) k) else (false, stK i k) := by
 unfold mayP
 rw [isP_at h]
 rfl
theorem may_yes' (h : At W i ks) {t : ByteArray} (ht : keySays (headK ks) t = true) : mayP W t (stK i k) = (true, stK (i + 1) k) := by rw [mayP_at h, ht]; rfl
theorem may_no' (h : At W i ks) {t : ByteArray} (ht : keySays (headK ks) t = false) : mayP W t (stK i k) = (false, stK i k) := by rw [mayP_at h, ht]; rfl
theorem must_at (h : At W i ks) {t : ByteArray} (ht : keySays (headK ks) t = true) : mustP W [t] (stK i k) = stK (i + 1) k := by
 unfold mustP
 rw [may_yes' h ht, if_pos rfl]
 rfl
theorem enter_at (h0 : 0 ≤ k) (h1 : k < 60) : enterP (stK i k) = stK i (k + 1) := by
 have e : wrap64 (k + 1) = k + 1 := by unfold wrap64; omega
 unfold enterP upP stK
 simp only [e]
 rw [if_neg (by simp; omega)]
theorem leave_at (h0 : 0 ≤ k) (h1 : k < 60) : leaveP (stK i (k + 1)) = stK i k := by
 have e : wrap64 (k + 1 - 1) = k := by unfold wrap64; omega
 unfold leaveP stK
 simp only [e]
theorem look_kind (h : At W i ks) : (W.look i).kind = (headK ks).1 := by rw [← h.look]; rfl
theorem look_text (h : At W i ks) : (W.look i).text = (headK ks).2.1 := by rw [← h.look]; rfl
theorem look_n (h : At W i ks) : (W.look i).n = (headK ks).2.2 := by rw [← h.look]; rfl
theorem name_at {b : ByteArray} (h : At W i (idK b :: ks)) (hb : resB b = false) : nameP W (stK i k) = (b, stK (i + 1) k) := by
 have h1 : (W.look (stK i k).at_).kind = 3 := look_kind h
 have h2 : (W.look (stK i k).at_).text = b := look_text h
 unfold nameP
 rw [h1, h2, hb, if_neg (by simp [stK])]
 rfl
theorem num_at {b : ByteArray} {n : Int} (h : At W i ((1, b, n) :: ks)) : numP W (stK i k) = (n, stK (i + 1) k) := by
 have h1 : (W.look (stK i k).at_).kind = 1 := look_kind h
 have h2 : (W.look (stK i k).at_).n = n := look_n h
 unfold numP
 rw [h1, h2, if_neg (by simp [stK]), if_pos rfl]
 rfl
end
def NoneK (l : List (ByteArray × Int)) (ks : List Key) : Prop := ∀ x ∈ l, keySays (headK ks) x.1 = false
theorem op_none {W : Wds} {i : Nat} {ks : List Key} {k : Int} (h : At W i ks) : ∀ {l : List (ByteArray × Int)}, NoneK l ks → opP W l (stK i k) = (0, stK i k) := by
 intro l
 induction l with
 | nil => intro _; rfl
 | cons x l ih =>
  intro hn
  obtain ⟨t, op⟩ := x
  unfold opP
  rw [may_no' h (hn (t, op) (by simp)), if_neg Bool.false_ne_true]
  exact ih (fun y hy => hn y (by simp [hy]))
def opOf : List (ByteArray × Int) → Key → Int
 | [], _ => 0
 | (t, op) :: r, k => if keySays k t then op else opOf r k
theorem op_some {W : Wds} {i : Nat} {ks : List Key} {k : Int} (h : At W i ks) : ∀ {l : List (ByteArray × Int)}, (∀ x ∈ l, x.2 ≠ 0) → opOf l (headK ks) ≠ 0 → opP W l (stK i k) = (opOf l (headK ks), stK (i + 1) k) := by
 intro l
 induction l with
 | nil => intro _ h; exact absurd rfl h
 | cons x l ih =>
  intro hl h0
  obtain ⟨t, op⟩ := x
  unfold opP
  unfold opOf at h0 ⊢
  cases hk : keySays (headK ks) t with
  | true => rw [may_yes' h hk, if_pos rfl]; rfl
  | false =>
   rw [may_no' h hk, if_neg Bool.false_ne_true]
   rw [hk, if_neg (by decide)] at h0
   exact ih (fun y hy => hl y (by simp [hy])) h0
end Go.Afx
namespace Go.Afx
open Go.RowKit
def sgnK (op : Int) : Key := if op = 17 then nmK [97, 110, 100] else if op = 18 then nmK [111, 114] else if op = 19 then nmK [110, 111, 116] else if 21 ≤ op then nmK (sgnL op) else sgK (sgnL op)
def lvlN (op : Int) : Nat := if op = 18 then 1 else if op = 17 then 2 else if op = 19 then 3 else if 11 ≤ op ∧ op ≤ 16 then 4 else if 6 ≤ op ∧ op ≤ 7 then 5 else if 8 ≤ op ∧ op ≤ 10 then 6 else if op = 20 then 7 else 8
theorem lvlN_eq {op : Int} (h1 : 1 ≤ op) (h2 : op ≤ 24) : lvlZ op = (lvlN op : Nat) := by
 rcases op_cases h1 h2 with rfl | rfl | rfl | rfl | rfl | rfl | rfl | rfl | rfl | rfl | rfl | rfl | rfl | rfl | rfl | rfl | rfl | rfl | rfl | rfl | rfl | rfl | rfl | rfl <;> decide
def opndK (L : Nat) (op : Int) (t : List Key) : List Key := if lvlN op < L then [sgK [40]] ++ t ++ [sgK [41]] else t
def whereK (op n : Int) (t : List Key) : List Key := if op = 3 ∧ n = 1 then [] else nmK [119, 104, 101, 114, 101] :: t
def rowsK (name src : ByteArray) (op n : Int) (t : List Key) : List Key := [idK name, nmK [105, 110], idK src] ++ whereK op n t
def tokE : Nat → Ex → List Key
 | 0, _ => []
 | d + 1, e =>
  if e.op = 1 then [(1, str (decS e.n), e.n)]
  else if e.op = 2 then [(2, e.s, 0)]
  else if e.op = 3 then [nmK (if e.n = 1 then trueL else falseL)]
  else if e.op = 4 then [idK e.name]
  else if e.op = 5 then [idK e.name, sgK [46], idK e.s]
  else match e.args with
   | [] => []
   | a :: r =>
    if e.op = 19 ∨ e.op = 20 then sgnK e.op :: opndK (lvlN e.op) a.op (tokE d a)
    else if 21 ≤ e.op then [sgnK e.op, sgK [40]] ++ (rowsK e.name e.src a.op a.n (tokE d a) ++ ((if e.op = 21 then [] else sgK [58] :: (match r with | [] => [] | b :: _ => tokE d b)) ++ [sgK [41]]))
    else opndK (lvlN e.op + if lvlN e.op = 4 then 1 else 0) a.op (tokE d a) ++ (sgnK e.op :: (match r with | [] => [] | b :: _ => opndK (lvlN e.op + 1) b.op (tokE d b)))
section
variable (W : Wds) (E : PSt → Ex × PSt)
def levP (g : Nat) : Nat → PSt → Ex × PSt
 | 1 => chain1 W lvOr (bothP W E)
 | 2 => bothP W E
 | 3 => notP W E g
 | 4 => cmpP W E
 | 5 => sumP W E
 | 6 => productP W E
 | 7 => signedP W E g
 | _ => singleP W E
def isCh (L : Nat) : Prop := L = 1 ∨ L = 2 ∨ L = 5 ∨ L = 6
instance (L : Nat) : Decidable (isCh L) := by unfold isCh; exact inferInstance
def lstL (L : Nat) : List (ByteArray × Int) := if L = 1 then lvOr else if L = 2 then lvAnd else if L = 4 then lvCmp else if L = 5 then lvSum else if L = 6 then lvMul else []
theorem lev_ch {g L : Nat} (h : isCh L) (s : PSt) : levP W E g L s = chainP W (lstL L) (levP W E W.fuel (L + 1)) W.fuel (levP W E W.fuel (L + 1) s).1 (levP W E W.fuel (L + 1) s).2 := by
 rcases h with rfl | rfl | rfl | rfl <;> rfl
def Reach (g L : Nat) (s : PSt) (e : Ex) (s' : PSt) : Prop :=
 if isCh L then ∃ F, W.fuel ≤ F + (s'.at_ - s.at_) ∧ levP W E g L s = chainP W (lstL L) (levP W E W.fuel (L + 1)) F e s' else levP W E g L s = (e, s')
end
def NoOp (L : Nat) (ks : List Key) : Prop := (∀ M, L ≤ M → NoneK (lstL M) ks) ∧ keySays (headK ks) (str [46]) = false
theorem NoOp.mono {L M : Nat} {ks : List Key} (h : NoOp L ks) (hL : L ≤ M) : NoOp M ks := ⟨fun N hN => h.1 N (Nat.le_trans hL hN), h.2⟩
theorem chain_end {W : Wds} {i : Nat} {ks : List Key} {k : Int} {l : List (ByteArray × Int)} {one : PSt → Ex × PSt} (h : At W i ks) (hn : NoneK l ks) : ∀ F e, chainP W l one F e (stK i k) = (e, stK i k) := by
 intro F e
 cases F with
 | zero => rfl
 | succ F =>
  unfold chainP
  rw [op_none h hn, if_pos rfl]
theorem Reach.done {W : Wds} {E : PSt → Ex × PSt} {g L i j : Nat} {ks : List Key} {k : Int} {e : Ex} (h : Reach W E g L (stK i k) e (stK j k)) (hj : At W j ks) (hn : NoOp L ks) : levP W E g L (stK i k) = (e, stK j k) := by
 unfold Reach at h
 split at h
 ·obtain ⟨F, _, h⟩ := h
  rw [h]
  exact chain_end hj (hn.1 L (Nat.le_refl _)) F e
 ·exact h
theorem Reach.up {W : Wds} {E : PSt → Ex × PSt} {g L i j : Nat} {ks kz : List Key} {k : Int} {e : Ex} (hL : L < 8) (hL1 : 1 ≤ L) (hi : At W i kz) (h : levP W E W.fuel (L + 1) (stK i k) = (e, stK j k)) (hg0 : 0 < g) (hj : At W j ks) (hn : NoOp (if L = 4 then 4 else L + 1) ks)
  (h3 : L = 3 → keySays (headK kz) (str [110, 111, 116]) = false) (h7 : L = 7 → keySays (headK kz) (str [45]) = false) : Reach W E g L (stK i k) e (stK j k) := by
 have hc : L = 3 ∨ L = 4 ∨ L = 7 ∨ isCh L := by unfold isCh; omega
 obtain ⟨g, rfl⟩ : ∃ m, g = m + 1 := ⟨g - 1, by omega⟩
 unfold Reach
 rcases hc with rfl | rfl | rfl | hc
 ·rw [if_neg (by decide)]
  show notP W E (g + 1) _ = _
  unfold notP
  rw [may_no' hi (h3 rfl), if_neg Bool.false_ne_true]
  exact h
 ·rw [if_neg (by decide)]
  have h : sumP W E (stK i k) = (e, stK j k) := h
  show cmpP W E _ = _
  unfold cmpP
  simp only
  rw [h]
  simp only
  have hn4 : NoneK lvCmp ks := hn.1 4 (by simp)
  rw [op_none hj hn4, if_pos rfl]
 ·rw [if_neg (by decide)]
  show signedP W E (g + 1) _ = _
  unfold signedP
  rw [may_no' hi (h7 rfl), if_neg Bool.false_ne_true]
  exact h
 ·rw [if_pos hc]
  refine ⟨W.fuel, by omega, ?_⟩
  rw [lev_ch W E hc, h]
end Go.Afx
