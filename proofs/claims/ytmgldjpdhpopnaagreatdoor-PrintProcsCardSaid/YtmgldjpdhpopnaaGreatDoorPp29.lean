/- Parts of this proof, one behind the other: RefH, RefD, PrtP, PrtA. -/
import Derived.Test.YtmgldjpdhpopnaaGreatDoorPp25
import Derived.Test.YtmgldjpdhpopnaaGreatDoorPp28
import Derived.Deep.CutBlock
import Derived.Deep.DeepCutAuto
import Derived.Deep.QuietTactic
import Derived.Deep.RegionHeld3
import Derived.BigQuiet
import Derived.Outline
import Derived.Test.YtmgldjpdhpopnaaGreatDoorPp14
import Derived.Test.YtmgldjpdhpopnaaGreatDoorPp8
import Derived.Test.YtmgldjpdhpopnaaGreatDoorPp2
import Derived.ProofKit
import Derived.Test.YtmgldjpdhpopnaaGreatDoorPp3
import Derived.Test.YtmgldjpdhpopnaaGreatDoorPp1
import Derived.Test.YtmgldjpdhpopnaaGreatDoorProg
import Derived.Laws.IdiomStrings
import Derived.WalkLawsBesides
import Derived.Lib.Hide
set_option maxRecDepth 1000000
set_option maxHeartbeats 40000000
namespace Go.Proofs.YtmgldjpdhpopnaaGreatDoor
open Go.RowKit Go.Afx
theorem rbuiltS_succ (F : Nat → Prop) (d : Nat) (ih : RBuiltS F d) (op n : Int) (name src : ByteArray) (cols : List ByteArray) (exprs : List Ex) (body els : List St) (Ac Ae Ab Al : Option Addr) (nc cc ne ce nb cb nl cl : Nat) (w : World)
  (oknm : okS name) (oksr : okS src) (hcl : LsAt F w 1 SRow Ac nc cc cols) (hel : ExsAt F d w Ae ne ce exprs) (hbl : StsAt F d w Ab nb cb body) (hll : StsAt F d w Al nl cl els) :
  Calls Tryz.prog 78 #[.agg #[.int .i64 op, .string name, .string src, .int .i64 n, .slice Ac nc cc, .slice Ae ne ce, .slice Ab nb cb, .slice Al nl cl]] w fun e w' => e = .returned (.bool (refS op name src n cols exprs.length body.length els.length && exprs.all (builtE d) && body.all (builtS d) && els.all (builtS d))) ∧ Below w.heap.size w w' := by
 have hnc := LsAt.n_le hcl
 have hne := LsAt.n_le hel
 have hnb := LsAt.n_le hbl
 have hnl := LsAt.n_le hll
 have Hcl := Lhd (LsAt.len hcl)
 have Hel := Lhd (LsAt.len hel)
 have Hbl := Lhd (LsAt.len hbl)
 have Hll := Lhd (LsAt.len hll)
 have hb1 : Below w.heap.size w (w.alloc (.cells #[.int .i64 op, .string name, .string src, .int .i64 n, .slice Ac nc cc, .slice Ae ne ce, .slice Ab nb cb, .slice Al nl cl] 71)) := (Below.refl _ _).alloc (Nat.le_refl _) _
 by_cases hlo : 1 ≤ op
 rotate_left
 ·have Hf : Hid (refS op name src n cols exprs.length body.length els.length = false) := Lhd (by unfold refS; simp [hlo])
  have hlo' : op < 1 := by omega
  clear hcl hel hbl hll
  go_enter Tryz.func78, Tryz.ntmps78
  go_wp2
  go_ret
  exact ⟨ret_bool (by rw [Hf.out]; rfl), hb1⟩
 by_cases hhi : op ≤ 10
 rotate_left
 ·have Hf : Hid (refS op name src n cols exprs.length body.length els.length = false) := Lhd (by unfold refS; simp [hhi])
  have hhi' : 10 < op := by omega
  clear hcl hel hbl hll
  go_enter Tryz.func78, Tryz.ntmps78
  go_wp2
  go_ret
  exact ⟨ret_bool (by rw [Hf.out]; rfl), hb1⟩
 obtain ⟨j1, j2, j3, j4, j5, j6⟩ := inB_n op hlo hhi
 have oknf := okS_fOf op
 have Hop := Lhd (And.intro hlo hhi)
 go_enter Tryz.func78, Tryz.ntmps78
 go_upto_region 4 with (fail)
 obtain ⟨w2, Hw2⟩ : ∃ w2, Hid (w2 = (w.alloc (.cells #[.int .i64 op, .string name, .string src, .int .i64 n, .slice Ac nc cc, .slice Ae ne ce, .slice Ab nb cb, .slice Al nl cl] 71)).alloc (.cells #[.string { data := #[] }, .string { data := #[110] }, .string { data := #[110] }, .string { data := #[115] }, .string { data := #[110, 115, 99] }, .string { data := #[110, 115] }, .string { data := #[110, 115, 78, 98] }, .string { data := #[98, 101] }, .string { data := #[115] }, .string { data := #[] }, .string { data := #[] }] 9)) := ⟨_, rfl⟩
 have hb2 : Below w.heap.size w w2 := by rw [Hw2.out]; exact hb1.alloc (by simp) _
 have hx2 : IsBlk w2 w.heap.size 71 #[.int .i64 op, .string name, .string src, .int .i64 n, .slice Ac nc cc, .slice Ae ne ce, .slice Ab nb cb, .slice Al nl cl] := by rw [Hw2.out]; exact (IsBlk.laid _ _ _).alloc _
 have ha2 : IsBlk w2 (w.heap.size + 1) 9 #[.string { data := #[] }, .string { data := #[110] }, .string { data := #[110] }, .string { data := #[115] }, .string { data := #[110, 115, 99] }, .string { data := #[110, 115] }, .string { data := #[110, 115, 78, 98] }, .string { data := #[98, 101] }, .string { data := #[115] }, .string { data := #[] }, .string { data := #[] }] := by rw [Hw2.out]; exact laid_at (by simp) _ _
 rw [← Hw2.out]
 obtain ⟨x0, x1, x2, x3, x4, x5, x6, x7, xl⟩ := stBox' hx2
 have HX := Lhd (fun W (hW : Below w2.heap.size w2 W) => hx2.as_was (hW.block _ hx2.lt))
 have Hcl2 := Lhd (fun W (hW : Below w2.heap.size w2 W) => (hcl.below hb2).below hW)
 have Hel2 := Lhd (fun W (hW : Below w2.heap.size w2 W) => ExsAt.below (ExsAt.below hel hb2) hW)
 have Hbl2 := Lhd (fun W (hW : Below w2.heap.size w2 W) => StsAt.below (StsAt.below hbl hb2) hW)
 have Hll2 := Lhd (fun W (hW : Below w2.heap.size w2 W) => StsAt.below (StsAt.below hll hb2) hW)
 have Hb2 := Lhd hb2
 clear hcl hel hbl hll hx2 hb1
 go_cut [4] (fun u4 W => u4 = .string (fOf op) ∧ w2 = W)
 case first =>
  have a0 := ha2.cell 0; have a1 := ha2.cell 1; have a2 := ha2.cell 2; have a3 := ha2.cell 3; have a4 := ha2.cell 4; have a5 := ha2.cell 5; have a6 := ha2.cell 6; have a7 := ha2.cell 7; have a8 := ha2.cell 8; have a9 := ha2.cell 9; have a10 := ha2.cell 10
  simp at a0 a1 a2 a3 a4 a5 a6 a7 a8 a9 a10
  clear ha2 HX Hcl2 Hel2 Hbl2 Hll2 j1 j2 j3 j4 j5 j6
  rcases fOf_cases op Hop.out.1 Hop.out.2 with rfl | rfl | rfl | rfl | rfl | rfl | rfl | rfl | rfl | rfl
  all_goals
   go_wp2
   go_meet
   exact ⟨rfl, rfl⟩
 case rest =>
  obtain ⟨rfl, rfl⟩ := hcut
  obtain ⟨f, Hf0⟩ : ∃ f, Hid (fOf op = f) := ⟨_, rfl⟩
  rw [Hf0.out] at j1 j2 j3 j4 j5 j6 oknf
  rw [Hf0.out]
  clear ha2
  have J1 := Lhd j1
  have J2 := Lhd j2
  have J3 := Lhd j3
  have J4 := Lhd j4
  have J5 := Lhd j5
  have J6 := Lhd j6
  clear j1 j2 j3 j4 j5 j6
  go_upto_region 5 with (fail)
  go_cut [57] (fun u57 W => WordsA w2 (tA op name src) u57 W)
  case first =>
   refine Code.wp_mono noPanic_then (phaseA op n name src f Ac Ae Ab Al nc cc ne ce nb cb nl cl w w2 oknm oksr oknf (HX.out _ (Below.refl _ _)) J1.out J2.out ?_)
   intro y24 y25 y26 y27 y28 y29 y30 y31 y32 y33 y34 y35 y36 y37 y38 y39 y40 y41 y42 y43 y44 y45 y46 y47 y48 y49 y50 y51 y52 y53 y54 y55 y56 y57 W hr
   have Hr := Lhd hr
   clear hr
   go_step
   go_meet
   exact Hr.out
  case rest =>
   obtain ⟨rfl, hbA⟩ := hcut
   generalize wc = w5 at *
   obtain ⟨ta, Hta⟩ : ∃ b, Hid (tA op name src = b) := ⟨_, rfl⟩
   rw [Hta.out]
   have HA5 := Lhd hbA
   have H05 := Lhd (Hb2.out.trans (hbA.mono Hb2.out.size))
   have Hx5 := Lhd (HX.out w5 hbA)
   clear hbA
   cases ta
   rotate_left
   ·have Hf : Hid (refS op name src n cols exprs.length body.length els.length = false) := Lhd (by unfold refS; rw [Hta.out]; simp)
    go_wp2
    go_ret
    exact ⟨ret_bool (by rw [Hf.out]; rfl), H05.out⟩
   go_upto_region 7 with (fail)
   go_cut [112] (fun u112 W => WordsA w5 (tB op n nc nb nl) u112 W)
   case first =>
    refine Code.wp_mono noPanic_then (phaseB op n name src f Ac Ae Ab Al nc cc ne ce nb cb nl cl w w5 oknf Hx5.out J3.out J4.out J5.out J6.out Hop.out.1 Hop.out.2 ?_)
    intro y58 y59 y60 y61 y62 y63 y64 y65 y66 y67 y68 y69 y70 y71 y72 y73 y74 y75 y76 y77 y78 y79 y80 y81 y82 y83 y84 y85 y86 y87 y88 y89 y90 y91 y92 y93 y94 y95 y96 y97 y98 y99 y100 y101 y102 y103 y104 y105 y106 y107 y108 y109 y110 y111 y112 W hr
    have Hr := Lhd hr
    clear hr
    go_step
    go_meet
    exact Hr.out
   case rest =>
    obtain ⟨rfl, hbB⟩ := hcut
    generalize wc = w6 at *
    obtain ⟨tb, Htb⟩ : ∃ b, Hid (tB op n nc nb nl = b) := ⟨_, rfl⟩
    rw [Htb.out]
    have H26 := Lhd (HA5.out.trans (hbB.mono HA5.out.size))
    have H06 := Lhd (Hb2.out.trans (H26.out.mono Hb2.out.size))
    clear hbB
    cases tb
    rotate_left
    ·have Hf : Hid (refS op name src n cols exprs.length body.length els.length = false) := Lhd (by unfold refS; rw [Hcl.out, Hbl.out, Hll.out, Htb.out]; simp)
     go_wp2
     go_ret
     exact ⟨ret_bool (by rw [Hf.out]; rfl), H06.out⟩
    repeat (first | exact built_rest F d ih op n name src cols exprs body els Ac Ae Ab Al nc cc ne ce nb cb nl cl w w2 w6 Hb2.out (HX.out _ (Below.refl _ _)) H26.out (Hcl2.out _ (Below.refl _ _)) (Hel2.out _ (Below.refl _ _)) (Hbl2.out _ (Below.refl _ _)) (Hll2.out _ (Below.refl _ _)) Hta.out Htb.out Hop.out.1 Hop.out.2 | go_step)
theorem rbuiltS_any (F : Nat → Prop) (d : Nat) : RBuiltS F d := by
 induction d with
 | zero => intro x row w h; exact h.elim
 | succ d ih =>
  intro x row w h
  obtain ⟨_, _, hnm, hsr, Ac, nc, cc, Ae, ne, ce, Ab, nb, cb, Al, nl, cl, rfl, hcl, hel, hbl, hll⟩ := h.open_
  have hfin : builtS (d + 1) x = (refS x.op x.name x.src x.n x.cols x.exprs.length x.body.length x.els.length && x.exprs.all (builtE d) && x.body.all (builtS d) && x.els.all (builtS d)) := by
   rw [refS_shape]; rfl
  rw [hfin]
  exact rbuiltS_succ F d ih x.op x.n x.name x.src x.cols x.exprs x.body x.els Ac Ae Ab Al nc cc ne ce nb cb nl cl w hnm hsr hcl hel hbl hll
open Go.RowKit Go.Afx Go.ChangeShapes Go.WideShapes Go.Deep
section
variable {H : Type} {enc : TypeId × Value → H} {w : World} {base : Nat} {spare : Nat → Bool} {held : Bool}
theorem fields_of {P : Program} {t : TypeId} {fs : Array Field} {fuel : Nat} {cs : List Value} {x : DataW H × List MemPlace} (ht : P.underlying t = some (.struct fs)) (h : DataW.trod enc P w base spare held fuel t cs = some x) :
  ∀ (i : Nat) (f : Field), fs[i]? = some f → ∃ m y, DataW.trod enc P w base spare held m f.type ((cs.drop f.offset).take (P.cellsOf f.type)) = some y := by
 obtain ⟨xs, n, _, _, _, hl, hf⟩ := DataW.trod_struct ht h
 intro i f hi
 have hlt : i < fs.size := (Array.getElem?_eq_some_iff.1 hi).1
 exact ⟨n, xs[i]'(by omega), by rw [hf i f hi]; exact List.getElem?_eq_getElem _⟩
theorem slice_of {P : Program} {t e : TypeId} {fuel : Nat} {v : Value} {x : DataW H × List MemPlace} (ht : P.underlying t = some (.slice e)) (h : DataW.trod enc P w base spare held fuel t [v] = some x) : ∃ A n c, v = .slice A n c := by
 rcases open_slice ht h with ⟨hcs, _⟩ | ⟨a, len, cap, m, q, D, Pl, hcs, _⟩
 ·simp only [List.cons.injEq, and_true] at hcs; exact ⟨_, _, _, hcs⟩
 ·simp only [List.cons.injEq, and_true] at hcs; exact ⟨_, _, _, hcs⟩
theorem six_of {r : List Value} (h : r.length = 6) : ∃ a b c d e f, r = [a, b, c, d, e, f] := by
 match r, h with
 | [a, b, c, d, e, f], _ => exact ⟨a, b, c, d, e, f, rfl⟩
theorem eight_of {r : List Value} (h : r.length = 8) : ∃ a b c d e f g k, r = [a, b, c, d, e, f, g, k] := by
 match r, h with
 | [a, b, c, d, e, f, g, k], _ => exact ⟨a, b, c, d, e, f, g, k, rfl⟩
theorem str_of {m : Nat} {v : Value} {y : DataW H × List MemPlace} (h : DataW.trod enc Tryz.prog w base spare held m 9 [v] = some y) : ∃ s, v = .string s ∧ okS s := by
 obtain ⟨s, hs, _, hk⟩ := DataW.trod_string Tryz.underlying9 h
 simp only [List.cons.injEq, and_true] at hs
 exact ⟨s, hs, hk⟩
theorem int_of {m : Nat} {v : Value} {y : DataW H × List MemPlace} (h : DataW.trod enc Tryz.prog w base spare held m 3 [v] = some y) : ∃ k, v = .int .i64 k ∧ okI k := by
 obtain ⟨k, hs, _, hk⟩ := DataW.trod_int Tryz.underlying3 h
 simp only [List.cons.injEq, and_true] at hs
 exact ⟨k, hs, okI_of hk⟩
theorem int64_of {m : Nat} {v : Value} {y : DataW H × List MemPlace} (h : DataW.trod enc Tryz.prog w base spare held m 2 [v] = some y) : ∃ k, v = .int .i64 k ∧ okI k := by
 obtain ⟨k, hs, _, hk⟩ := DataW.trod_int Tryz.underlying2 h
 simp only [List.cons.injEq, and_true] at hs
 exact ⟨k, hs, okI_of hk⟩
theorem ints_of {m : Nat} {v : Value} {y : DataW H × List MemPlace} (h : DataW.trod enc Tryz.prog w base spare held m 26 [v] = some y) : ∃ A n c xs, v = .slice A n c ∧ LsAt (Old w) w 1 IRow A n c xs := by
 obtain ⟨A, n, c, rfl⟩ := slice_of Tryz.underlying26 h
 obtain ⟨xs, hx⟩ := ints_of_trod Tryz.underlying26 Tryz.underlying3 (by kernel_rfl) h
 exact ⟨A, n, c, xs, rfl, hx⟩
theorem strs_of {m : Nat} {v : Value} {y : DataW H × List MemPlace} (h : DataW.trod enc Tryz.prog w base spare held m 64 [v] = some y) : ∃ A n c xs, v = .slice A n c ∧ LsAt (Old w) w 1 SRow A n c xs := by
 obtain ⟨A, n, c, rfl⟩ := slice_of Tryz.underlying64 h
 obtain ⟨xs, hx⟩ := strs_of_trod Tryz.underlying64 Tryz.underlying9 (by kernel_rfl) h
 exact ⟨A, n, c, xs, rfl, hx⟩
theorem cS : Tryz.prog.cellsOf 9 = 1 := by kernel_rfl
theorem cI : Tryz.prog.cellsOf 3 = 1 := by kernel_rfl
theorem cJ : Tryz.prog.cellsOf 2 = 1 := by kernel_rfl
theorem cIs : Tryz.prog.cellsOf 26 = 1 := by kernel_rfl
theorem cSs : Tryz.prog.cellsOf 64 = 1 := by kernel_rfl
theorem cCo : Tryz.prog.cellsOf 45 = 1 := by kernel_rfl
theorem cLf : Tryz.prog.cellsOf 22 = 1 := by kernel_rfl
theorem cKn : Tryz.prog.cellsOf 46 = 1 := by kernel_rfl
theorem co_of {m : Nat} {r : List Value} {y : DataW H × List MemPlace} (hl : r.length = 2) (h : DataW.trod enc Tryz.prog w base spare held m 94 r = some y) : ∃ c : Co, CoRow r c := by
 obtain ⟨a, b, rfl⟩ : ∃ a b, r = [a, b] := by
  match r, hl with
  | [a, b], _ => exact ⟨a, b, rfl⟩
 have hF := fields_of Tryz.underlying94 h
 obtain ⟨m0, y0, h0⟩ := hF 0 _ rfl
 obtain ⟨m1, y1, h1⟩ := hF 1 _ rfl
 replace h0 : DataW.trod enc Tryz.prog w base spare held m0 9 (([a, b] : List Value).drop 0 |>.take (Tryz.prog.cellsOf 9)) = some y0 := h0
 rw [cS] at h0
 replace h1 : DataW.trod enc Tryz.prog w base spare held m1 3 (([a, b] : List Value).drop 1 |>.take (Tryz.prog.cellsOf 3)) = some y1 := h1
 rw [cI] at h1
 obtain ⟨s, rfl, k1⟩ := str_of h0
 obtain ⟨i, rfl, k2⟩ := int_of h1
 exact ⟨⟨s, i⟩, rfl, k1, k2⟩
theorem cols_of {m : Nat} {v : Value} {y : DataW H × List MemPlace} (h : DataW.trod enc Tryz.prog w base spare held m 45 [v] = some y) : ∃ A n c xs, v = .slice A n c ∧ LsAt (Old w) w 2 CoRow A n c xs := by
 obtain ⟨A, n, c, rfl⟩ := slice_of Tryz.underlying45 h
 obtain ⟨xs, hx⟩ := ls_of_trod Tryz.underlying45 (by kernel_rfl) (by omega) CoRow (fun r m y hr hy => co_of hr hy) h
 exact ⟨A, n, c, xs, rfl, hx⟩
theorem lf_of {m : Nat} {r : List Value} {y : DataW H × List MemPlace} (hl : r.length = 6) (h : DataW.trod enc Tryz.prog w base spare held m 63 r = some y) : ∃ x : Lf, LfAt (Old w) w r x := by
 obtain ⟨a, b, c, d, e, f, rfl⟩ := six_of hl
 have hF := fields_of Tryz.underlying63 h
 obtain ⟨m0, y0, h0⟩ := hF 0 _ rfl
 obtain ⟨m1, y1, h1⟩ := hF 1 _ rfl
 obtain ⟨m2, y2, h2⟩ := hF 2 _ rfl
 obtain ⟨m3, y3, h3⟩ := hF 3 _ rfl
 obtain ⟨m4, y4, h4⟩ := hF 4 _ rfl
 obtain ⟨m5, y5, h5⟩ := hF 5 _ rfl
 replace h0 : DataW.trod enc Tryz.prog w base spare held m0 3 (([a, b, c, d, e, f] : List Value).drop 0 |>.take (Tryz.prog.cellsOf 3)) = some y0 := h0
 rw [cI] at h0
 replace h1 : DataW.trod enc Tryz.prog w base spare held m1 2 (([a, b, c, d, e, f] : List Value).drop 1 |>.take (Tryz.prog.cellsOf 2)) = some y1 := h1
 rw [cJ] at h1
 replace h2 : DataW.trod enc Tryz.prog w base spare held m2 9 (([a, b, c, d, e, f] : List Value).drop 2 |>.take (Tryz.prog.cellsOf 9)) = some y2 := h2
 rw [cS] at h2
 replace h3 : DataW.trod enc Tryz.prog w base spare held m3 9 (([a, b, c, d, e, f] : List Value).drop 3 |>.take (Tryz.prog.cellsOf 9)) = some y3 := h3
 rw [cS] at h3
 replace h4 : DataW.trod enc Tryz.prog w base spare held m4 9 (([a, b, c, d, e, f] : List Value).drop 4 |>.take (Tryz.prog.cellsOf 9)) = some y4 := h4
 rw [cS] at h4
 replace h5 : DataW.trod enc Tryz.prog w base spare held m5 26 (([a, b, c, d, e, f] : List Value).drop 5 |>.take (Tryz.prog.cellsOf 26)) = some y5 := h5
 rw [cIs] at h5
 obtain ⟨i0, rfl, k0⟩ := int_of h0
 obtain ⟨i1, rfl, k1⟩ := int64_of h1
 obtain ⟨s2, rfl, k2⟩ := str_of h2
 obtain ⟨s3, rfl, k3⟩ := str_of h3
 obtain ⟨s4, rfl, k4⟩ := str_of h4
 obtain ⟨A5, n5, c5, l5, rfl, k5⟩ := ints_of h5
 exact ⟨⟨i0, i1, s2, s3, s4, l5⟩, k0, k1, k2, k3, k4, A5, n5, c5, rfl, k5⟩
theorem leaves_of {m : Nat} {v : Value} {y : DataW H × List MemPlace} (h : DataW.trod enc Tryz.prog w base spare held m 22 [v] = some y) : ∃ A n c xs, v = .slice A n c ∧ LsAt (Old w) w 6 (LfAt (Old w) w) A n c xs := by
 obtain ⟨A, n, c, rfl⟩ := slice_of Tryz.underlying22 h
 obtain ⟨xs, hx⟩ := ls_of_trod Tryz.underlying22 (by kernel_rfl) (by omega) (LfAt (Old w) w) (fun r m y hr hy => lf_of hr hy) h
 exact ⟨A, n, c, xs, rfl, hx⟩
theorem kn_of {m : Nat} {r : List Value} {y : DataW H × List MemPlace} (hl : r.length = 8) (h : DataW.trod enc Tryz.prog w base spare held m 66 r = some y) : ∃ x : Kn, KnAt (Old w) w r x := by
 obtain ⟨a, b, c, d, e, f, g, k, rfl⟩ := eight_of hl
 have hF := fields_of Tryz.underlying66 h
 obtain ⟨m0, y0, h0⟩ := hF 0 _ rfl
 obtain ⟨m1, y1, h1⟩ := hF 1 _ rfl
 obtain ⟨m2, y2, h2⟩ := hF 2 _ rfl
 obtain ⟨m3, y3, h3⟩ := hF 3 _ rfl
 obtain ⟨m4, y4, h4⟩ := hF 4 _ rfl
 obtain ⟨m5, y5, h5⟩ := hF 5 _ rfl
 obtain ⟨m6, y6, h6⟩ := hF 6 _ rfl
 obtain ⟨m7, y7, h7⟩ := hF 7 _ rfl
 replace h0 : DataW.trod enc Tryz.prog w base spare held m0 3 (([a, b, c, d, e, f, g, k] : List Value).drop 0 |>.take (Tryz.prog.cellsOf 3)) = some y0 := h0
 rw [cI] at h0
 replace h1 : DataW.trod enc Tryz.prog w base spare held m1 9 (([a, b, c, d, e, f, g, k] : List Value).drop 1 |>.take (Tryz.prog.cellsOf 9)) = some y1 := h1
 rw [cS] at h1
 replace h2 : DataW.trod enc Tryz.prog w base spare held m2 9 (([a, b, c, d, e, f, g, k] : List Value).drop 2 |>.take (Tryz.prog.cellsOf 9)) = some y2 := h2
 rw [cS] at h2
 replace h3 : DataW.trod enc Tryz.prog w base spare held m3 3 (([a, b, c, d, e, f, g, k] : List Value).drop 3 |>.take (Tryz.prog.cellsOf 3)) = some y3 := h3
 rw [cI] at h3
 replace h4 : DataW.trod enc Tryz.prog w base spare held m4 64 (([a, b, c, d, e, f, g, k] : List Value).drop 4 |>.take (Tryz.prog.cellsOf 64)) = some y4 := h4
 rw [cSs] at h4
 replace h5 : DataW.trod enc Tryz.prog w base spare held m5 26 (([a, b, c, d, e, f, g, k] : List Value).drop 5 |>.take (Tryz.prog.cellsOf 26)) = some y5 := h5
 rw [cIs] at h5
 replace h6 : DataW.trod enc Tryz.prog w base spare held m6 26 (([a, b, c, d, e, f, g, k] : List Value).drop 6 |>.take (Tryz.prog.cellsOf 26)) = some y6 := h6
 rw [cIs] at h6
 replace h7 : DataW.trod enc Tryz.prog w base spare held m7 26 (([a, b, c, d, e, f, g, k] : List Value).drop 7 |>.take (Tryz.prog.cellsOf 26)) = some y7 := h7
 rw [cIs] at h7
 obtain ⟨i0, rfl, k0⟩ := int_of h0
 obtain ⟨s1, rfl, k1⟩ := str_of h1
 obtain ⟨s2, rfl, k2⟩ := str_of h2
 obtain ⟨i3, rfl, k3⟩ := int_of h3
 obtain ⟨A4, n4, c4, l4, rfl, k4⟩ := strs_of h4
 obtain ⟨A5, n5, c5, l5, rfl, k5⟩ := ints_of h5
 obtain ⟨A6, n6, c6, l6, rfl, k6⟩ := ints_of h6
 obtain ⟨A7, n7, c7, l7, rfl, k7⟩ := ints_of h7
 exact ⟨⟨i0, s1, s2, i3, l4, l5, l6, l7⟩, k0, k3, k1, k2, A4, n4, c4, A5, n5, c5, A6, n6, c6, A7, n7, c7, rfl, k4, k5, k6, k7⟩
theorem knots_of {m : Nat} {v : Value} {y : DataW H × List MemPlace} (h : DataW.trod enc Tryz.prog w base spare held m 46 [v] = some y) : ∃ A n c xs, v = .slice A n c ∧ LsAt (Old w) w 8 (KnAt (Old w) w) A n c xs := by
 obtain ⟨A, n, c, rfl⟩ := slice_of Tryz.underlying46 h
 obtain ⟨xs, hx⟩ := ls_of_trod Tryz.underlying46 (by kernel_rfl) (by omega) (KnAt (Old w) w) (fun r m y hr hy => kn_of hr hy) h
 exact ⟨A, n, c, xs, rfl, hx⟩
theorem say_of {m : Nat} {r : List Value} {y : DataW H × List MemPlace} (hl : r.length = 8) (h : DataW.trod enc Tryz.prog w base spare held m 48 r = some y) : ∃ (name src part : ByteArray) (fuel : Int) (Ap : Option Addr) (np cp : Nat) (params : List Co) (A A' : Option Addr) (n c n' c' : Nat) (xs : List Lf) (ys : List Kn) (Ak : Option Addr) (nk ck : Nat) (ks : List Int), r = [.string name, .string src, .string part, .int .i64 fuel, .slice Ap np cp, .slice A n c, .slice A' n' c', .slice Ak nk ck] ∧ LsAt (Old w) w 2 CoRow Ap np cp params ∧ LsAt (Old w) w 6 (LfAt (Old w) w) A n c xs ∧ LsAt (Old w) w 8 (KnAt (Old w) w) A' n' c' ys ∧ LsAt (Old w) w 1 IRow Ak nk ck ks ∧ okS name ∧ okS src ∧ okS part ∧ okI fuel := by
 obtain ⟨a, b, c, d, e, f, g, k, rfl⟩ := eight_of hl
 have hF := fields_of Tryz.underlying48 h
 obtain ⟨m0, y0, h0⟩ := hF 0 _ rfl
 obtain ⟨m1, y1, h1⟩ := hF 1 _ rfl
 obtain ⟨m2, y2, h2⟩ := hF 2 _ rfl
 obtain ⟨m3, y3, h3⟩ := hF 3 _ rfl
 obtain ⟨m4, y4, h4⟩ := hF 4 _ rfl
 obtain ⟨m5, y5, h5⟩ := hF 5 _ rfl
 obtain ⟨m6, y6, h6⟩ := hF 6 _ rfl
 obtain ⟨m7, y7, h7⟩ := hF 7 _ rfl
 replace h0 : DataW.trod enc Tryz.prog w base spare held m0 9 (([a, b, c, d, e, f, g, k] : List Value).drop 0 |>.take (Tryz.prog.cellsOf 9)) = some y0 := h0
 rw [cS] at h0
 replace h1 : DataW.trod enc Tryz.prog w base spare held m1 9 (([a, b, c, d, e, f, g, k] : List Value).drop 1 |>.take (Tryz.prog.cellsOf 9)) = some y1 := h1
 rw [cS] at h1
 replace h2 : DataW.trod enc Tryz.prog w base spare held m2 9 (([a, b, c, d, e, f, g, k] : List Value).drop 2 |>.take (Tryz.prog.cellsOf 9)) = some y2 := h2
 rw [cS] at h2
 replace h3 : DataW.trod enc Tryz.prog w base spare held m3 3 (([a, b, c, d, e, f, g, k] : List Value).drop 3 |>.take (Tryz.prog.cellsOf 3)) = some y3 := h3
 rw [cI] at h3
 replace h4 : DataW.trod enc Tryz.prog w base spare held m4 45 (([a, b, c, d, e, f, g, k] : List Value).drop 4 |>.take (Tryz.prog.cellsOf 45)) = some y4 := h4
 rw [cCo] at h4
 replace h5 : DataW.trod enc Tryz.prog w base spare held m5 22 (([a, b, c, d, e, f, g, k] : List Value).drop 5 |>.take (Tryz.prog.cellsOf 22)) = some y5 := h5
 rw [cLf] at h5
 replace h6 : DataW.trod enc Tryz.prog w base spare held m6 46 (([a, b, c, d, e, f, g, k] : List Value).drop 6 |>.take (Tryz.prog.cellsOf 46)) = some y6 := h6
 rw [cKn] at h6
 replace h7 : DataW.trod enc Tryz.prog w base spare held m7 26 (([a, b, c, d, e, f, g, k] : List Value).drop 7 |>.take (Tryz.prog.cellsOf 26)) = some y7 := h7
 rw [cIs] at h7
 obtain ⟨name, rfl, k0⟩ := str_of h0
 obtain ⟨src, rfl, k1⟩ := str_of h1
 obtain ⟨part, rfl, k2⟩ := str_of h2
 obtain ⟨fuel, rfl, k3⟩ := int_of h3
 obtain ⟨Ap, np, cp, params, rfl, k4⟩ := cols_of h4
 obtain ⟨A, n, c, xs, rfl, k5⟩ := leaves_of h5
 obtain ⟨A', n', c', ys, rfl, k6⟩ := knots_of h6
 obtain ⟨Ak, nk, ck, ks, rfl, k7⟩ := ints_of h7
 exact ⟨name, src, part, fuel, Ap, np, cp, params, A, A', n, c, n', c', xs, ys, Ak, nk, ck, ks, rfl, k4, k5, k6, k7, k0, k1, k2, k3⟩
end
end Go.Proofs.YtmgldjpdhpopnaaGreatDoor
namespace Go.Afx
open Go.RowKit
def digs (n : Nat) : List UInt8 := if _h : n = 0 then [] else digs (n / 10) ++ [UInt8.ofNat (48 + n % 10)]
termination_by n
decreasing_by omega
theorem digs_zero : digs 0 = [] := by rw [digs]; rfl
theorem digs_pos {n : Nat} (h : 0 < n) : digs n = digs (n / 10) ++ [UInt8.ofNat (48 + n % 10)] := by
 rw [digs, dif_neg (by omega)]
theorem digs_len (k : Nat) : ∀ n, n < 10 ^ k → (digs n).length ≤ k := by
  induction k with
  | zero => intro n h; obtain rfl : n = 0 := by simpa using h
            rw [digs_zero]; exact Nat.le_refl _
  | succ k ih =>
    intro n h
    rcases Nat.eq_zero_or_pos n with rfl | hp
    · rw [digs_zero]; exact Nat.zero_le _
    · rw [digs_pos hp, List.length_append]
      have := ih (n / 10) (by rw [Nat.pow_succ] at h; omega)
      simp only [List.length_cons, List.length_nil]
      omega
def decS (n : Int) : List UInt8 := if n = 0 then [48] else digs n.toNat
theorem decS_len {n : Int} (h : okI n) : (decS n).length ≤ 19 := by
  unfold decS okI at *
  split
  · decide
  · exact digs_len 19 _ (by have : (10 : Nat) ^ 19 = 10000000000000000000 := by decide
                            omega)
def dbl (l : List UInt8) : List UInt8 := l.flatMap fun c => if c = 39 then [39, 39] else [c]
theorem dbl_len (l : List UInt8) : (dbl l).length ≤ 2 * l.length := by
 induction l with
 | nil => decide
 | cons a r ih =>
  unfold dbl at *
  rw [List.flatMap_cons, List.length_append, List.length_cons]
  split <;> simp only [List.length_cons, List.length_nil] <;> omega
def quoteS (s : ByteArray) : List UInt8 := [39] ++ dbl s.data.toList ++ [39]
def sgnT : List (List UInt8) := [[43], [45], [42], [47], [37], [61], [33, 61], [60], [60, 61], [62, 61], [62], [97, 110, 100], [111, 114], [110, 111, 116, 32], [45], [99, 111, 117, 110, 116], [115, 117, 109], [109, 105, 110], [109, 97, 120]]
def lvlT : List Int := [5, 5, 6, 6, 6, 4, 4, 4, 4, 4, 4, 2, 1, 3, 7, 8, 8, 8, 8]
def sgnL (op : Int) : List UInt8 := if op < 6 then [] else sgnT.getD (op - 6).toNat []
def lvlZ (op : Int) : Int := if op < 6 then 8 else lvlT.getD (op - 6).toNat 8
theorem op_cases {op : Int} (h1 : 1 ≤ op) (h2 : op ≤ 24) : op = 1 ∨ op = 2 ∨ op = 3 ∨ op = 4 ∨ op = 5 ∨ op = 6 ∨ op = 7 ∨ op = 8 ∨ op = 9 ∨ op = 10 ∨ op = 11 ∨ op = 12 ∨ op = 13 ∨ op = 14 ∨ op = 15 ∨ op = 16 ∨ op = 17 ∨ op = 18 ∨ op = 19 ∨ op = 20 ∨ op = 21 ∨ op = 22 ∨ op = 23 ∨ op = 24 := by omega
theorem sgnL_len {op : Int} (h1 : 1 ≤ op) (h2 : op ≤ 24) : (sgnL op).length ≤ 5 := by
 rcases op_cases h1 h2 with rfl | rfl | rfl | rfl | rfl | rfl | rfl | rfl | rfl | rfl | rfl | rfl | rfl | rfl | rfl | rfl | rfl | rfl | rfl | rfl | rfl | rfl | rfl | rfl <;> decide
theorem lvlZ_bd {op : Int} (h1 : 1 ≤ op) (h2 : op ≤ 24) : 1 ≤ lvlZ op ∧ lvlZ op ≤ 8 := by
 rcases op_cases h1 h2 with rfl | rfl | rfl | rfl | rfl | rfl | rfl | rfl | rfl | rfl | rfl | rfl | rfl | rfl | rfl | rfl | rfl | rfl | rfl | rfl | rfl | rfl | rfl | rfl <;> decide
def opnd (least op : Int) (t : List UInt8) : List UInt8 := if lvlZ op < least then [40] ++ t ++ [41] else t
def whereT (op n : Int) (t : List UInt8) : List UInt8 := if op = 3 ∧ n = 1 then [] else [32, 119, 104, 101, 114, 101, 32] ++ t
def rowsT (name src : ByteArray) (op n : Int) (t : List UInt8) : List UInt8 := name.data.toList ++ [32, 105, 110, 32] ++ src.data.toList ++ whereT op n t
def trueL : List UInt8 := [116, 114, 117, 101]
def falseL : List UInt8 := [102, 97, 108, 115, 101]
def txtE : Nat → Ex → List UInt8
 | 0, _ => []
 | d + 1, e =>
  if e.op = 1 then decS e.n
  else if e.op = 2 then quoteS e.s
  else if e.op = 3 then (if e.n = 1 then trueL else falseL)
  else if e.op = 4 then e.name.data.toList
  else if e.op = 5 then e.name.data.toList ++ [46] ++ e.s.data.toList
  else match e.args with
   | [] => []
   | a :: r =>
    if e.op = 19 ∨ e.op = 20 then sgnL e.op ++ opnd (lvlZ e.op) a.op (txtE d a)
    else if 21 ≤ e.op then sgnL e.op ++ [40] ++ rowsT e.name e.src a.op a.n (txtE d a) ++ (if e.op = 21 then [] else [58, 32] ++ (match r with | [] => [] | b :: _ => txtE d b)) ++ [41]
    else opnd (lvlZ e.op + if lvlZ e.op = 4 then 1 else 0) a.op (txtE d a) ++ ([32] ++ sgnL e.op ++ [32]) ++ (match r with | [] => [] | b :: _ => opnd (lvlZ e.op + 1) b.op (txtE d b))
def nlE : Nat → Ex → Bool
 | 0, _ => false
 | d + 1, e => (decide (e.op = 2) && e.s.data.toList.any (· == 10)) || e.args.any (nlE d)
theorem built_parts {d : Nat} {e : Ex} (h : builtE (d + 1) e = true) : arityB e.op = e.args.length ∧ fieldsR e.op e.n e.s e.name e.src = true ∧ ∀ x ∈ e.args, builtE d x = true := by
 rw [builtE] at h
 unfold headE fieldsE at h
 simp only [Bool.and_eq_true, decide_eq_true_eq, List.all_eq_true] at h
 exact ⟨h.1.1, h.1.2, h.2⟩
theorem arity_op {op : Int} {n : Nat} (h : arityB op = (n : Int)) : 1 ≤ op ∧ op ≤ 24 := by
 unfold arityB at h
 split at h
 ·omega
 ·split at h
  ·omega
  ·split at h
   ·omega
   ·split at h
    ·omega
    ·split at h <;> omega
theorem built_op {d : Nat} {e : Ex} (h : builtE d e = true) : 1 ≤ e.op ∧ e.op ≤ 24 := by
 cases d with
 | zero => cases h
 | succ d => exact arity_op (built_parts h).1
theorem named_len {s : ByteArray} (h : freeB s = true) : s.data.toList.length ≤ 16 := by
 unfold freeB namedB at h
 revert h
 generalize s.data.toList = l
 cases l with
 | nil => intro _; decide
 | cons a r =>
  intro h
  simp only [Bool.and_eq_true, decide_eq_true_eq] at h
  simp only [List.length_cons]
  omega
theorem opnd_len (least op : Int) (t : List UInt8) : (opnd least op t).length ≤ t.length + 2 := by
 unfold opnd
 split
 ·simp only [List.length_append, List.length_cons, List.length_nil]; omega
 ·omega
theorem whereT_len (op n : Int) (t : List UInt8) : (whereT op n t).length ≤ t.length + 7 := by
 unfold whereT
 split
 ·simp
 ·simp only [List.length_append, List.length_cons, List.length_nil]; omega
end Go.Afx
namespace Go.Proofs.YtmgldjpdhpopnaaGreatDoor
open Go.RowKit Go.Afx
theorem size_nn (n : Int) (w : World) (h0 : 0 ≤ n) (h1 : n ≤ 9223372036854775807) : Calls Tryz.prog 104 #[.int .i64 n] w fun e w' => e = .returned (.int .u64 n) ∧ w = w' := by
 have e : IntKind.u64.wrap n = n := by simp only [IntKind.wrap, IntKind.bits, IntKind.signed]; simp; omega
 go_enter Tryz.func104, Tryz.ntmps104
 go_wp2
 go_ret
 exact ⟨rfl, rfl⟩
structure DigsIn (n : Nat) (g : Nat) (w : World) (wr : World) (a u : Nat) : Prop where
 low : Below g w wr
 at_ : a ≤ 20
 fits : u < 10 ^ (a - 1)
 cells : ∃ cs : Array Value, IsBlk wr g 163 cs ∧ cs.size = 20 ∧ ∃ tl : List UInt8, tl.length = 20 - a ∧ digs n = digs u ++ tl ∧ ∀ j, j < tl.length → cs[a + j]? = some (.int .u8 ((tl.getD j 0).toNat : Int))
theorem u8_digit (u : Nat) : ((UInt8.ofNat (48 + u % 10)).toNat : Int) = 48 + (u : Int) % 10 := by
 rw [UInt8.toNat_ofNat']
 omega
theorem DigsIn.step {n g : Nat} {w wr : World} {b u : Nat} (h : DigsIn n g w wr (b + 1) u) (hu : 0 < u) : DigsIn n g w (wr.setCell ⟨g, b, none⟩ (.int .u8 (48 + (u : Int) % 10))) b (u / 10) := by
 obtain ⟨cs, hx, hsz, tl, htl, hdg, hcs⟩ := h.cells
 have ha := h.at_
 refine ⟨h.low.setCell (p := ⟨g, b, none⟩) (Nat.le_refl _) _, by omega, ?_, _, hx.stored b _, by simp [hsz], UInt8.ofNat (48 + u % 10) :: tl, by simp [htl]; omega, ?_, fun j hj => ?_⟩
 ·have hf := h.fits
  rw [Nat.add_sub_cancel] at hf
  rcases Nat.eq_zero_or_pos b with rfl | hb
  ·simp at hf; omega
  ·obtain ⟨c, rfl⟩ : ∃ c, b = c + 1 := ⟨b - 1, by omega⟩
   rw [Nat.pow_succ] at hf
   rw [Nat.add_sub_cancel]
   omega
 ·rw [hdg, digs_pos hu, List.append_assoc]
  rfl
 ·cases j with
  | zero =>
   rw [Nat.add_zero, Array.getElem?_setIfInBounds_self_of_lt (by omega)]
   rw [List.getD_cons_zero, u8_digit]
  | succ j =>
   have h1 := hcs j (by simpa using hj)
   rw [Array.getElem?_setIfInBounds_ne (by omega), List.getD_cons_succ, ← h1]
   congr 1
   omega
theorem digs_room {a u : Nat} (h : u < 10 ^ (a - 1)) (hu : 0 < u) : 2 ≤ a := by
 rcases Nat.lt_or_ge a 2 with h1 | h1
 ·have : a - 1 = 0 := by omega
  rw [this] at h
  simp at h
  omega
 ·exact h1
theorem calcPrint_any (n : Int) (w : World) (h0 : 0 ≤ n) (h1 : n ≤ 9223372036854775807) : Calls Tryz.prog 55 #[.int .i64 n] w fun e w' => e = .returned (.string ⟨(decS n).toArray⟩) ∧ Below w.heap.size w w' := by
  by_cases hz : n = 0
  · subst hz
    go_enter Tryz.func55, Tryz.ntmps55
    go_wp2
    go_ret
    exact ⟨rfl, Below.refl _ _⟩
  have hd : (n == 0) = false := by simpa using hz
  have hn : ¬ n < 0 := by omega
  have Hz := Lhd hz
  clear hz
  go_enter Tryz.func55, Tryz.ntmps55
  go_wp2_with (go_at_call 104; refine (size_nn n _ h0 h1).mono ?_; rintro e w' ⟨rfl, rfl⟩)
  have hx0 := IsBlk.laid w 163 #[.int .u8 0, .int .u8 0, .int .u8 0, .int .u8 0, .int .u8 0, .int .u8 0, .int .u8 0, .int .u8 0, .int .u8 0, .int .u8 0, .int .u8 0, .int .u8 0, .int .u8 0, .int .u8 0, .int .u8 0, .int .u8 0, .int .u8 0, .int .u8 0, .int .u8 0, .int .u8 0]
  have hstart : DigsIn n.toNat w.heap.size w (w.alloc (.cells #[.int .u8 0, .int .u8 0, .int .u8 0, .int .u8 0, .int .u8 0, .int .u8 0, .int .u8 0, .int .u8 0, .int .u8 0, .int .u8 0, .int .u8 0, .int .u8 0, .int .u8 0, .int .u8 0, .int .u8 0, .int .u8 0, .int .u8 0, .int .u8 0, .int .u8 0, .int .u8 0] 163)) 20 n.toNat :=
    ⟨(Below.refl _ _).alloc (Nat.le_refl _) _, Nat.le_refl _, by have : (10 : Nat) ^ (20 - 1) = 10000000000000000000 := by decide
                                                                 omega, _, hx0, rfl, [], rfl, by simp, fun j hj => by simp at hj⟩
  have Hst := Lhd hstart
  obtain ⟨N, rfl⟩ : ∃ N : Nat, n = (N : Int) := ⟨n.toNat, by omega⟩
  clear hx0 hstart
  go_loopw [4, 5] (fun a u wr => ∃ (k m : Nat), a = .int .i64 k ∧ u = .int .u64 m ∧ m ≤ N ∧ DigsIn N w.heap.size w wr k m) (fun _ u _ => (intOf u).toNat)
  case atStart => exact ⟨20, N, rfl, rfl, Nat.le_refl _, Hst.out⟩
  case round =>
    obtain ⟨a, u, rfl, rfl, hle, hD⟩ := hrel
    have HD := Lhd hD
    by_cases hu : 0 < u
    · have h2 := digs_room hD.fits hu
      obtain ⟨b, rfl⟩ : ∃ b, a = b + 1 := ⟨a - 1, by omega⟩
      have hb20 := hD.at_
      obtain ⟨cs, hx, hsz, tl, htl, hdg, hcs⟩ := hD.cells
      have hlt := hx.lt
      have hcell : wr.cell? ⟨w.heap.size, b, none⟩ = some (cs[b]'(by omega)) := by rw [hx.cell]; exact Array.getElem?_eq_getElem _
      have hfz := hx.frozen
      have Hx := Lhd hx
      have Hc := Lhd hcs
      have Hd := Lhd hdg
      have Htl := Lhd htl
      have e1 : IntKind.u8.wrap (48 + (u : Int) % 10) = 48 + (u : Int) % 10 := by simp only [IntKind.wrap, IntKind.bits, IntKind.signed]; simp; omega
      have Hsz := Lhd hsz
      generalize cs[b]'(by omega) = old at *
      clear hx hcs hdg htl hD hsz
      go_wp2
      go_roundw
      case rel => exact ⟨b, u / 10, rfl, by go_num, Nat.le_trans (Nat.div_le_self _ _) hle, HD.out.step hu⟩
      case measure => simp [intOf]; omega
    · obtain rfl : u = 0 := by omega
      have ha20 := hD.at_
      obtain ⟨cs, hx, hsz, tl, htl, hdg, hcs⟩ := hD.cells
      have hdg' : decS (N : Int) = tl := by
        unfold decS
        rw [if_neg Hz.out, Int.toNat_natCast, hdg, digs_zero, List.nil_append]
      have hcv := fun (src : TypeId) (hs : Tryz.prog.underlying src = some (.slice 5)) => run_convert_bytes_back (P := Tryz.prog) wr src 9 5 ⟨w.heap.size, a, none⟩ (20 - a) tl hs Tryz.underlying5 Tryz.underlying9 (fun j hj => by
        have h := hcs j hj
        have e : ((⟨w.heap.size, a, none⟩ : Addr).add j) = ⟨w.heap.size, a + j, none⟩ := by
          unfold Addr.add
          split
          · rename_i h0; subst h0; rfl
          · rfl
        rw [e, hx.cell, h, List.getD_eq_getElem?_getD, List.getElem?_eq_getElem hj]
        rfl)
      rw [htl] at hcv
      have Hcv := Lhd (hcv 100 Tryz.underlying100)
      have Hlow := Lhd hD.low
      have hf := Hcv.out
      have i1 : (0 : Int) ≤ (a : Int) := by omega
      have i2 : (a : Int) ≤ 20 := by omega
      have ha : a < 20 := by
        have hN : 0 < N := by have := Hz.out; omega
        have h := hdg
        rw [digs_zero, List.nil_append, digs_pos hN] at h
        have h2 : tl.length ≠ 0 := by rw [← h]; simp
        omega
      have ha2 : ¬ a = 20 := by omega
      have ha3 : ¬ 20 = a := by omega
      have hd2 : decide ((N : Int) < 0) = false := by simp
      have Hdg := Lhd hdg'
      clear hcv hcs hx hdg htl hD hdg'
      go_wp2
      go_ret
      exact ⟨by rw [Hdg.out]; rfl, Hlow.out⟩
end Go.Proofs.YtmgldjpdhpopnaaGreatDoor
