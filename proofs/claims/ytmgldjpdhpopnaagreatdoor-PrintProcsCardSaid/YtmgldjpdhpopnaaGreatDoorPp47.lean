/- Parts of this proof, one behind the other: PrsN, PrsS. -/
import Derived.Test.YtmgldjpdhpopnaaGreatDoorPp41
import Derived.Test.YtmgldjpdhpopnaaGreatDoorPp34
import Derived.Test.YtmgldjpdhpopnaaGreatDoorPp46
import Derived.Test.YtmgldjpdhpopnaaGreatDoorPp37
import Derived.Test.YtmgldjpdhpopnaaGreatDoorPp21
import Derived.Deep.DeepCutAuto
import Derived.Outline
set_option maxRecDepth 1000000
set_option maxHeartbeats 40000000
namespace Go.Proofs.YtmgldjpdhpopnaaGreatDoor
open Go.RowKit Go.Afx
theorem any_true {α : Type} {p : α → Bool} {l : List α} {k : Nat} {a : α} (h : l[k]? = some a) (h2 : p a = true) : l.any p = true := List.any_eq_true.2 ⟨a, List.mem_of_getElem? h, h2⟩
theorem newlines_any : ∀ (d : Nat) (F : Nat → Prop) (xs : List St) (A : Option Addr) (n c : Nat) (w : World), StsAt F d w A n c xs →
  Calls Tryz.prog 16 #[.slice A n c] w fun x w' => x = .returned (.bool (xs.any (nlS d))) ∧ Below w.heap.size w w' := by
 intro d
 induction d with
 | zero =>
  intro F xs A n c w h
  have hn : n = 0 := by
   rcases Nat.eq_zero_or_pos n with h0 | h0
   ·exact h0
   ·obtain ⟨_, _, _, _, _, _, _, _, _, hp, _⟩ := LsAt.get h h0
    exact hp.elim
  subst hn
  obtain rfl : xs = [] := List.eq_nil_of_length_eq_zero (LsAt.len h)
  clear h
  go_enter Tryz.func16, Tryz.ntmps16
  go_wp2
  refine wp_loop_rounds 1 ?_
  rw [rounds_succ]
  go_wp2
  go_ret
  exact ⟨rfl, Below.refl _ _⟩
 | succ d ih =>
  intro F xs A n c w h
  have hn := LsAt.n_le h
  have hne := LsAt.len h
  have Hget := Lhd (fun i (hi : i < n) => sts_below h hi)
  have Hih := Lhd ih
  generalize hfin : xs.any (nlS (d + 1)) = fin
  have Hfin := Lhd hfin
  clear h hfin ih
  go_enter Tryz.func16, Tryz.ntmps16
  go_wp2
  go_loopw [3] (fun i wr => ∃ j : Nat, j ≤ n ∧ i = .int .i64 j ∧ Hid ((xs.take j).any (nlS (d + 1)) = false) ∧ Hid (Below w.heap.size w wr)) (fun i _ => n - (intOf i).toNat)
  case atStart => exact ⟨0, Nat.zero_le _, rfl, Lhd (by simp), Lhd (Below.refl _ _)⟩
  case round =>
   obtain ⟨j, hj, rfl, HS, HW⟩ := hrel
   rcases Nat.lt_or_ge j n with hlt | hge
   ·obtain ⟨b, o, x, Ac, nc, cc, Ae, ne, ce, Ab, nb, cb, Al, nl, cl, rfl, he, hat⟩ := Hget.out j hlt
    obtain ⟨wo, rfl⟩ : ∃ wo : World, wo = wr := ⟨_, rfl⟩
    have Hat := Lhd hat
    have Htk := Lhd (any_take (p := nlS (d + 1)) he)
    have Htr := Lhd (any_true (p := nlS (d + 1)) he)
    obtain ⟨_, hxs⟩ := hat _ HW.out
    obtain ⟨op, name, src, nn, cols, exprs, body, els⟩ := x
    obtain ⟨_, _, _, _, Ac2, nc2, cc2, Ae2, ne2, ce2, Ab2, nb2, cb2, Al2, nl2, cl2, hr, hxc, hxe, hxb, hxl⟩ := hxs.open_
    injection hr with _ hr
    injection hr with _ hr
    injection hr with _ hr
    injection hr with _ hr
    injection hr with h1 hr
    injection hr with h2 hr
    injection hr with h3 hr
    injection hr with h4 hr
    injection h2 with h2 h2b h2c
    injection h3 with h3 h3b h3c
    injection h4 with h4 h4b h4c
    subst h2 h2b h2c h3 h3b h3c h4 h4b h4c
    have hxe : ExsAt F d wo Ae ne ce exprs := hxe
    have hxb : StsAt F d wo Ab nb cb body := hxb
    have hxl : StsAt F d wo Al nl cl els := hxl
    have hen := LsAt.len hxe
    have hel := LsAt.n_le hxe
    have Hge := Lhd (fun k (hk : k < ne) => exs_below hxe hk)
    have Hbd := Lhd (fun W (hW : Below wo.heap.size wo W) => Hih.out F body Ab nb cb W (StsAt.below hxb hW))
    have Hld := Lhd (fun W (hW : Below wo.heap.size wo W) => Hih.out F els Al nl cl W (StsAt.below hxl hW))
    have Hnl := Lhd (nlS_op (d := d) (op := op) (name := name) (src := src) (n := nn) (cols := cols) (exprs := exprs) (body := body) (els := els))
    have Hen := Lhd hen
    have HC := Lhd (fun W (hW : Below wo.heap.size wo W) => (show b < W.heap.size ∧ W.cell? ⟨b, o + j * 8 + 5, none⟩ = some (.slice Ae ne ce) ∧ W.cell? ⟨b, o + j * 8 + 6, none⟩ = some (.slice Ab nb cb) ∧ W.cell? ⟨b, o + j * 8 + 7, none⟩ = some (.slice Al nl cl) from by
     obtain ⟨⟨q0, q1, q2, q3, q4, q5, q6, q7, q8⟩, _⟩ := Hat.out W (HW.out.trans (hW.mono HW.out.size))
     exact ⟨q0, q6, q7, q8⟩))
    clear hat hxs hxc hxe hxb hxl h1 hr he hen
    go_wp2
    go_loopw [4] (fun i wr => ∃ k : Nat, k ≤ ne ∧ i = .int .i64 k ∧ Hid ((exprs.take k).any (nlE d) = false) ∧ Hid (Below wo.heap.size wo wr)) (fun i _ => ne - (intOf i).toNat)
    case atStart => exact ⟨0, Nat.zero_le _, rfl, Lhd (by simp), Lhd (Below.refl _ _)⟩
    case round =>
     obtain ⟨k, hk, rfl, HE, HV⟩ := hrel
     obtain ⟨hbl, c5, c6, c7⟩ := HC.out _ HV.out
     rcases Nat.lt_or_ge k ne with hlt2 | hge2
     ·obtain ⟨b2, o2, e, A2, m2, c2, rfl, he, hat⟩ := Hge.out k hlt2
      obtain ⟨hbl2, ⟨z0, z1, z2, z3, z4, z5⟩, hxa⟩ := hat _ HV.out
      have Hc := Lhd (newline_any d F e _ wr hxa)
      have Hte := Lhd (any_take (p := nlE d) he)
      have Htt := Lhd (any_true (p := nlE d) he)
      clear hat hxa he
      generalize hq : nlE d e = q at *
      have Hq := Lhd hq
      clear hq
      cases q
      ·go_wp2_with (go_at_call 41; refine Hc.out.mono ?_; rintro y w3 ⟨rfl, hb3⟩)
       have Hb3 := Lhd hb3
       clear hb3
       go_roundw
       case rel =>
        refine ⟨k + 1, by omega, by go_num, Lhd ?_, Lhd (HV.out.trans (Hb3.out.mono HV.out.size))⟩
        rw [Hte.out, HE.out]
        rfl
       case measure => simp [intOf]; omega
      ·go_wp2_with (go_at_call 41; refine Hc.out.mono ?_; rintro y w3 ⟨rfl, hb3⟩)
       have Hb3 := Lhd hb3
       clear hb3
       refine bodyPost_ret (v := .bool true) (by simp [results, Tryz.results16, go_sem]) rfl ⟨?_, HW.out.trans ((HV.out.trans (Hb3.out.mono HV.out.size)).mono HW.out.size)⟩
       rw [← Hfin.out]
       refine ret_b ?_
       rw [Htr.out]
       rw [Hnl.out, (by first | exact Htt.out rfl | exact Htt.out trivial : exprs.any (nlE d) = true)]
       rfl
     ·have hfin : exprs.any (nlE d) = false := by
       have h := HE.out
       rw [List.take_of_length_le (by have := Hen.out; omega)] at h
       exact h
      have Hef := Lhd hfin
      clear hfin
      have Hb1 := Lhd (Hbd.out _ HV.out)
      generalize hqb : body.any (nlS d) = qb at *
      clear hqb
      cases qb
      ·generalize hql : els.any (nlS d) = ql at *
       clear hql
       cases ql
       ·go_wp2_with (first | (go_at_call 16; with_reducible refine Hb1.out.mono ?_; rintro y w4 ⟨rfl, hb4⟩; obtain ⟨hbl4, c54, c64, c74⟩ := HC.out _ (HV.out.trans (hb4.mono HV.out.size))) | (go_at_call 16; with_reducible refine (Hld.out _ (HV.out.trans (hb4.mono HV.out.size))).mono ?_; rintro y w5 ⟨rfl, hb5⟩))
        have Hb5 := Lhd ((HV.out.trans (hb4.mono HV.out.size)).trans (hb5.mono (HV.out.trans (hb4.mono HV.out.size)).size))
        clear hb4 hb5 hbl4 c54 c64 c74
        go_roundw
        case rel =>
         refine ⟨j + 1, by omega, by go_num, Lhd ?_, Lhd (HW.out.trans (Hb5.out.mono HW.out.size))⟩
         rw [Htk.out, HS.out, Hnl.out, Hef.out]
         rfl
        case measure => simp [intOf]; omega
       ·go_wp2_with (first | (go_at_call 16; with_reducible refine Hb1.out.mono ?_; rintro y w4 ⟨rfl, hb4⟩; obtain ⟨hbl4, c54, c64, c74⟩ := HC.out _ (HV.out.trans (hb4.mono HV.out.size))) | (go_at_call 16; with_reducible refine (Hld.out _ (HV.out.trans (hb4.mono HV.out.size))).mono ?_; rintro y w5 ⟨rfl, hb5⟩))
        have Hb5 := Lhd ((HV.out.trans (hb4.mono HV.out.size)).trans (hb5.mono (HV.out.trans (hb4.mono HV.out.size)).size))
        clear hb4 hb5 hbl4 c54 c64 c74
        refine bodyPost_ret (v := .bool true) (by simp [results, Tryz.results16, go_sem]) rfl ⟨?_, HW.out.trans (Hb5.out.mono HW.out.size)⟩
        rw [← Hfin.out]
        refine ret_b ?_
        have hx : nlS (d + 1) (.mk op name src nn cols exprs body els) = true := by rw [Hnl.out, Hef.out]; rfl
        exact (Htr.out hx).symm
      ·go_wp2_with (first | (go_at_call 16; with_reducible refine Hb1.out.mono ?_; rintro y w4 ⟨rfl, hb4⟩; obtain ⟨hbl4, c54, c64, c74⟩ := HC.out _ (HV.out.trans (hb4.mono HV.out.size))))
       have Hb5 := Lhd (HV.out.trans (hb4.mono HV.out.size))
       clear hb4 hbl4 c54 c64 c74
       refine bodyPost_ret (v := .bool true) (by simp [results, Tryz.results16, go_sem]) rfl ⟨?_, HW.out.trans (Hb5.out.mono HW.out.size)⟩
       rw [← Hfin.out]
       refine ret_b ?_
       have hx : nlS (d + 1) (.mk op name src nn cols exprs body els) = true := by rw [Hnl.out, Hef.out]; rfl
       exact (Htr.out hx).symm
   ·obtain rfl : j = n := Nat.le_antisymm hj hge
    have HS2 := HS.out
    rw [List.take_of_length_le (by omega)] at HS2
    have HS3 := Lhd HS2
    clear HS2
    go_wp2
    go_ret
    exact ⟨ret_b (by rw [← Hfin.out, HS3.out]), HW.out⟩
theorem refProc_any (F : Nat → Prop) (p : Pr) (row : List Value) (w : World) (h : PrAt F 101 w row p) (hr : rightB 101 p = true) :
  Calls Tryz.prog 17 #[.agg row.toArray] w fun e' w' => e' = .returned (.string ⟨(txtP 101 p).toArray⟩) ∧ Below w.heap.size w w' := by
 have hl := txtP_len h (by omega) hr
 have hr2 := hr
 unfold rightB headsB at hr2
 simp only [Bool.and_eq_true, List.all_eq_true] at hr2
 obtain ⟨⟨h1, _⟩, h3⟩ := hr2
 have hG := heads_gives h1
 obtain ⟨_, _, _, _, Ap, np, cp, Ab, nb, cb, rfl, hpl, hbl⟩ := h
 have hb : (blockT (txtS 101) 0 p.body).length ≤ 1000000000 := by
  unfold txtP at hl
  rw [List.length_append] at hl
  omega
 have hD := block_texts (k := 0) (B := ⟨#[]⟩) (refStmt_any 101 F) hbl h3 rfl (by omega) hb
 exact rproc_texts F p.name p.src p.part p.fuel p.params Ap Ab np cp nb cb _ w hpl hG hD (by rw [arr_size]; exact hb)
theorem toldP_any (d : Nat) (p : Pr) (w : World) : Calls Tryz.prog 18 #[.string ⟨(procS d p).1.toArray⟩, .int .i64 (procS d p).2, .bool (rightB d p && !nlP d p), .string (if (rightB d p && !nlP d p) = true then ⟨(txtP d p).toArray⟩ else ⟨#[]⟩)] w fun x w' => x = .returned (.bool true) ∧ w = w' := by
 unfold procS printS
 cases rightB d p
 ·exact told_no _ w
 ·cases nlP d p
  ·by_cases h : 8000 < (txtP d p).length
   ·have hs : 8000 < (⟨(txtP d p).toArray⟩ : ByteArray).size := by rw [arr_size]; exact h
    have hr := told_long _ w hs
    simpa [h] using hr
   ·have hs : ¬ 8000 < (⟨(txtP d p).toArray⟩ : ByteArray).size := by rw [arr_size]; exact h
    have hr := told_yes _ w hs
    simpa [h] using hr
  ·exact told_no _ w
theorem printProcs_walk (HRB : ∀ F : Nat → Prop, RBuiltS F 101) (F : Nat → Prop) (name src part : ByteArray) (fuel : Int) (Ap : Option Addr) (np cp : Nat) (params : List Co) (A A' : Option Addr) (n c n' c' : Nat) (xs : List Lf) (ys : List Kn) (Ak : Option Addr) (nk ck : Nat) (ks : List Int) (w : World)
  (hp : LsAt F w 2 CoRow Ap np cp params) (h1 : LsAt F w 6 (LfAt F w) A n c xs) (h2 : LsAt F w 8 (KnAt F w) A' n' c' ys) (hks : LsAt F w 1 IRow Ak nk ck ks) (hF : ∀ k, F k → k < w.heap.size) (okn : okS name) (oks : okS src) (okp : okS part) (okf : okI fuel) (hm : HasMax w) :
  Calls Tryz.prog 4 #[.agg #[.string name, .string src, .string part, .int .i64 fuel, .slice Ap np cp, .slice A n c, .slice A' n' c', .slice Ak nk ck]] w fun x w' => x = .returned (.bool true) ∧ Below w.heap.size w w' := by
 have hb1 : Below w.heap.size w (w.alloc (.cells #[.string name, .string src, .string part, .int .i64 fuel, .slice Ap np cp, .slice A n c, .slice A' n' c', .slice Ak nk ck] 48)) := (Below.refl _ _).alloc (Nat.le_refl _) _
 have HOf := Lhd (of_any HRB F name src part fuel Ap np cp params A A' n c n' c' xs ys Ak nk ck ks (w.alloc (.cells #[.string name, .string src, .string part, .int .i64 fuel, .slice Ap np cp, .slice A n c, .slice A' n' c', .slice Ak nk ck] 48)) (hp.below hb1) (h1.conv (Kept.of_below hb1) (fun _ _ _ h => h) (fun r x _ hx => LfAt.below hx hb1)) (h2.conv (Kept.of_below hb1) (fun _ _ _ h => h) (fun r x _ hx => KnAt.below hx hb1)) (hks.below hb1) (fun k hk => by have := hF k hk; simp; omega) okn oks okp okf)
 have Haw := Lhd (fun W (hW : Below w.heap.size w W) => awakeP_any W (hm.below hm.lt hW))
 have Hm := Lhd hm
 have Hb1 := Lhd hb1
 clear hp h1 h2 hks hb1 okn oks okp okf hF hm
 go_enter Tryz.func4, Tryz.ntmps4
 go_upto_region 2 with (go_at_call 14; refine HOf.out.mono ?_; rintro e w2 ⟨nm, sr, pt, fu, Ap2, np2, cp2, Ab2, nb2, cb2, m, d, r, ok, rfl, hb2, hP⟩)
 obtain ⟨w3, Hw3⟩ : ∃ w3, Hid (w3 = w2.alloc (.cells #[.string nm, .string sr, .string pt, .int .i64 fu, .slice Ap2 np2 cp2, .slice Ab2 nb2 cb2] 50)) := ⟨_, rfl⟩
 rw [← Hw3.out]
 have hb3 : Below w2.heap.size w2 w3 := by rw [Hw3.out]; exact (Below.refl _ _).alloc (Nat.le_refl _) _
 have Hz3 : Hid (w3.heap.size = w2.heap.size + 1) := Lhd (by rw [Hw3.out]; simp)
 have hx3 : IsBlk w3 w2.heap.size 50 #[.string nm, .string sr, .string pt, .int .i64 fu, .slice Ap2 np2 cp2, .slice Ab2 nb2 cb2] := by rw [Hw3.out]; exact IsBlk.laid _ _ _
 have H03 := Lhd ((Hb1.out.trans (hb2.mono Hb1.out.size)).trans (hb3.mono (Nat.le_trans Hb1.out.size hb2.size)))
 have Hb3 := Lhd hb3
 have Hx := Lhd (fun W (hW : Below w3.heap.size w3 W) => prBox (hx3.as_was (hW.block _ hx3.lt)))
 have Haw3 := Lhd (fun W (hW : Below w3.heap.size w3 W) => Haw.out W (H03.out.trans (hW.mono H03.out.size)))
 have Hm3 := Lhd (Hm.out.below Hm.out.lt H03.out)
 clear hb2 hb3 HOf Hb1 Haw Hm
 have hR : Below w3.heap.size w3 w3 := Below.refl _ _
 obtain ⟨p0, p1, p2, p3, p4, p5, pl⟩ := Hx.out _ hR
 cases ok
 ·clear hP hx3
  go_wp2_with (go_at_call 8; refine (Haw3.out _ hR).mono ?_)
  rintro x w4 ⟨rfl, hb4⟩
  have Hb4 := Lhd hb4
  clear hb4
  go_wp2
  go_ret
  exact ⟨rfl, H03.out.trans (Hb4.out.mono H03.out.size)⟩
 obtain ⟨p, hPr, hnd, hr, hp12, hb12⟩ := hP rfl
 have hPr3 := hPr.below Hb3.out
 have Hpp := Lhd (fun W (hW : Below w3.heap.size w3 W) => (show Calls Tryz.prog 15 #[.agg #[.string nm, .string sr, .string pt, .int .i64 fu, .slice Ap2 np2 cp2, .slice Ab2 nb2 cb2]] W fun x w' => x = .returned (.tuple #[.string ⟨(procS 101 p).1.toArray⟩, .int .i64 (procS 101 p).2]) ∧ Below W.heap.size W w' from
  printProc_any _ 101 p _ W (hPr3.below hW) (by omega) (by omega) (fun k hk => by have h1 := hW.size; have h2 := Hz3.out; show k < W.heap.size; have h3 : k < w2.heap.size := hk; omega) (Hm3.out.below Hm3.out.lt hW)))
 have Hrp := Lhd (fun (h : rightB 101 p = true) W (hW : Below w3.heap.size w3 W) => (show Calls Tryz.prog 17 #[.agg #[.string nm, .string sr, .string pt, .int .i64 fu, .slice Ap2 np2 cp2, .slice Ab2 nb2 cb2]] W fun x w' => x = .returned (.string ⟨(txtP 101 p).toArray⟩) ∧ Below W.heap.size W w' from
  refProc_any _ p _ W (hPr3.below hW) h))
 have Hnl := Lhd (fun W (hW : Below w3.heap.size w3 W) => (show Calls Tryz.prog 16 #[.slice Ab2 nb2 cb2] W fun x w' => x = .returned (.bool (nlP 101 p)) ∧ Below W.heap.size W w' from by
  obtain ⟨_, _, _, _, A4, n4, c4, A5, n5, c5, hrow, _, hbl⟩ := hPr3.below hW
  simp only [List.cons.injEq, Value.slice.injEq] at hrow
  obtain ⟨_, _, _, _, _, ⟨rfl, rfl, rfl⟩, _⟩ := hrow
  exact newlines_any 101 _ _ _ _ _ _ hbl))
 have Hto := Lhd (fun W => toldP_any 101 p W)
 rw [← hr] at Hrp Hto
 clear hx3 hPr hPr3 hnd hr hP
 generalize (⟨(procS 101 p).1.toArray⟩ : ByteArray) = pS at *
 generalize (procS 101 p).2 = pN at *
 generalize (⟨(txtP 101 p).toArray⟩ : ByteArray) = TX at *
 generalize nlP 101 p = nl at *
 go_upto_region 5 with (go_at_call 15; (with_reducible refine (Hpp.out _ hR).mono ?_); rintro x w4 ⟨rfl, hb4⟩; replace hR := hR.trans (hb4.mono hR.size); obtain ⟨p0, p1, p2, p3, p4, p5, pl⟩ := Hx.out _ hR)
 cases r
 ·have Ht := Lhd (fun W => (show Calls Tryz.prog 18 #[.string pS, .int .i64 pN, .bool false, .string ⟨#[]⟩] W fun x w' => x = .returned (.bool true) ∧ W = w' from Hto.out W))
  clear Hto Hrp Hnl
  go_wp2_with (first
   | (go_at_call 18; refine (Ht.out _).mono ?_; rintro x wt ⟨rfl, rfl⟩)
   | (go_at_call 8; refine (Haw3.out _ hR).mono ?_; rintro x w20 ⟨rfl, hb20⟩; replace hR := hR.trans (hb20.mono hR.size)))
  go_ret
  exact ⟨rfl, H03.out.trans (hR.mono H03.out.size)⟩
 ·cases nl
  ·have Ht := Lhd (fun W => (show Calls Tryz.prog 18 #[.string pS, .int .i64 pN, .bool true, .string TX] W fun x w' => x = .returned (.bool true) ∧ W = w' from Hto.out W))
   have Hrp2 := Lhd (Hrp.out rfl)
   clear Hto Hrp
   go_wp2_with (first
    | (go_at_call 16; (with_reducible refine (Hnl.out _ hR).mono ?_); rintro x w5 ⟨rfl, hb5⟩; replace hR := hR.trans (hb5.mono hR.size); obtain ⟨p0, p1, p2, p3, p4, p5, pl⟩ := Hx.out _ hR)
    | (go_at_call 17; (with_reducible refine (Hrp2.out _ hR).mono ?_); rintro x w6 ⟨rfl, hb6⟩; replace hR := hR.trans (hb6.mono hR.size); obtain ⟨p0, p1, p2, p3, p4, p5, pl⟩ := Hx.out _ hR)
    | (go_at_call 18; refine (Ht.out _).mono ?_; rintro x wt ⟨rfl, rfl⟩)
    | (go_at_call 8; refine (Haw3.out _ hR).mono ?_; rintro x w20 ⟨rfl, hb20⟩; replace hR := hR.trans (hb20.mono hR.size)))
   go_ret
   exact ⟨rfl, H03.out.trans (hR.mono H03.out.size)⟩
  ·have Ht := Lhd (fun W => (show Calls Tryz.prog 18 #[.string pS, .int .i64 pN, .bool false, .string ⟨#[]⟩] W fun x w' => x = .returned (.bool true) ∧ W = w' from Hto.out W))
   clear Hto Hrp
   go_wp2_with (first
    | (go_at_call 16; (with_reducible refine (Hnl.out _ hR).mono ?_); rintro x w5 ⟨rfl, hb5⟩; replace hR := hR.trans (hb5.mono hR.size); obtain ⟨p0, p1, p2, p3, p4, p5, pl⟩ := Hx.out _ hR)
    | (go_at_call 18; refine (Ht.out _).mono ?_; rintro x wt ⟨rfl, rfl⟩)
    | (go_at_call 8; refine (Haw3.out _ hR).mono ?_; rintro x w20 ⟨rfl, hb20⟩; replace hR := hR.trans (hb20.mono hR.size)))
   go_ret
   exact ⟨rfl, H03.out.trans (hR.mono H03.out.size)⟩
end Go.Proofs.YtmgldjpdhpopnaaGreatDoor
