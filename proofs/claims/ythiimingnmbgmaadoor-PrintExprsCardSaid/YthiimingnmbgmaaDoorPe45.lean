/- Parts of this proof, one behind the other: PrtB1. -/
import Derived.Test.YthiimingnmbgmaaDoorPe44
import Derived.Test.YthiimingnmbgmaaDoorPe43
import Derived.Test.YthiimingnmbgmaaDoorPe36
import Derived.Test.YthiimingnmbgmaaDoorPe38
import Derived.Test.YthiimingnmbgmaaDoorPe19
import Derived.Test.YthiimingnmbgmaaDoorPe22
import Derived.Test.YthiimingnmbgmaaDoorPe26
namespace Go.Proofs.YthiimingnmbgmaaDoor
open Go.RowKit Go.Afx

theorem exprS_no {d : Nat} {e : Ex} (h : rightE d e = false ∨ nlE d e = true) : exprS d e = ([], 1) := by
  unfold exprS
  cases hr : rightE d e
  · rfl
  · rcases h with h | h
    · rw [hr] at h; cases h
    · rw [h]; rfl
theorem right_tell {x : Ex} : rightE 50 x = (decide ((tellE x).1 ≤ 300) && decide ((tellE x).2 ≤ 12) && builtE 50 x) := by
  rw [right_cnt (by omega)]
  unfold tellE tellN
  by_cases h : 1000 ≤ cntE 50 x
  · rw [if_pos h, decide_eq_false (by omega : ¬ cntE 50 x ≤ 300)]
    rfl
  · rw [if_neg h]
    congr 2
    · simp only [decide_eq_decide]; omega
    · simp only [decide_eq_decide]; omega
theorem int_at {F : Nat → Prop} {w : World} {A : Option Addr} {n c : Nat} {xs : List Int} (h : LsAt F w 1 IRow A n c xs) {k : Nat} (hk : k < n) : ∃ b o x, A = some ⟨b, o, none⟩ ∧ b < w.heap.size ∧ xs[k]? = some x ∧ w.cell? ⟨b, o + k, none⟩ = some (.int .i64 x) := by
  obtain ⟨b, o, r, x, hA, hb, _, hx, _, ⟨rfl, _⟩, hc⟩ := h.get hk
  exact ⟨b, o, x, hA, hb, hx, by simpa using hc 0 _ rfl⟩

set_option maxRecDepth 100000 in
set_option maxHeartbeats 8000000 in
theorem prints_walk (F : Nat → Prop) (A : Option Addr) (n c : Nat) (xs : List Lf) (w : World) (h1 : LsAt F w 6 (LfAt F w) A n c xs) (hF : ∀ k, F k → k < w.heap.size) (hm : HasMax w) :
    Calls Tryd.prog 3 #[.slice A n c] w fun x w' => x = .returned (.bool true) ∧ Below w.heap.size w w' := by
  have Hgr := Lib.hid (great_any F A none n c 0 0 xs [] w h1 (LsAt.nil_ _ _ _ _))
  have Hbu := Lib.hid (build_any F A none n c 0 0 xs [] w h1 (LsAt.nil_ _ _ _ _) hF)
  have Hm := Lib.hid hm
  have Haw := Lib.hid (fun W (hW : Below w.heap.size w W) => awakeP_any W (hm.below hm.lt hW))
  clear h1 hF hm
  go_enter Tryd.func3, Tryd.ntmps3
  go_wp2_with (go_at_call 4; refine Hgr.out.mono ?_)
  rintro x w' ⟨b, rfl, rfl⟩
  cases b
  · go_wp2_with (go_at_call 6; refine Hbu.out.mono ?_)
    rintro x w2 ⟨row, es, ss, rfl, ht, hb2⟩
    obtain ⟨A0, c0, A1, c1, A2, c2, A3, c3, A4, c4, A5, c5, rfl, hE, hN, hD, _, _, _, hl50, _⟩ := ht
    obtain ⟨w3, Hw3⟩ : ∃ w3, Hid (w3 = w2.alloc (.cells #[.slice A0 es.length c0, .slice A1 es.length c1, .slice A2 es.length c2, .slice A3 ss.length c3, .slice A4 ss.length c4, .slice A5 ss.length c5] 29)) := ⟨_, rfl⟩
    have hb3 : Below w2.heap.size w2 w3 := by rw [Hw3.out]; exact (Below.refl _ _).alloc (Nat.le_refl _) _
    have hk3 : IsBlk w3 w2.heap.size 29 #[.slice A0 es.length c0, .slice A1 es.length c1, .slice A2 es.length c2, .slice A3 ss.length c3, .slice A4 ss.length c4, .slice A5 ss.length c5] := by rw [Hw3.out]; exact IsBlk.laid _ _ _
    have Hx := Lib.hid (fun W (hW : Below w3.heap.size w3 W) => box6 (hk3.as_was (hW.block _ hk3.lt)))
    have Hb3 := Lib.hid (hb2.trans (hb3.mono hb2.size))
    have Hb23 := Lib.hid hb3
    have HE := Lib.hid hE
    have HN := Lib.hid hN
    have HD := Lib.hid hD
    obtain ⟨x0, x1, x2, x3, x4, x5, xl⟩ := Hx.out _ (Below.refl _ _)
    clear hb2 hb3 hk3 hE hN hD
    go_upto_region 4 with (fail)
    rw [← Hw3.out]
    go_wp2
    go_loopw [4] (fun i wr => ∃ k : Nat, k ≤ es.length ∧ i = .int .i64 k ∧ Below w3.heap.size w3 wr) (fun i _ => es.length - (intOf i).toNat)
    case atStart => exact ⟨0, Nat.zero_le _, rfl, Below.refl _ _⟩
    case round =>
      obtain ⟨k, hk, rfl, hW⟩ := hrel
      obtain ⟨p0, p1, p2, p3, p4, p5, pl⟩ := Hx.out _ hW
      rcases Nat.lt_or_ge k es.length with hlt | hge
      · obtain ⟨b0, o0, r, x, rfl, hbl, hFb, hx, hrl, hp, hc⟩ := LsAt.get HE.out hlt
        obtain ⟨Aa, ma, ca, rfl⟩ := ex_row hp
        obtain ⟨b1, o1, N, rfl, hbl1, hxN, hcN⟩ := int_at HN.out hlt
        obtain ⟨b2, o2, D, rfl, hbl2, hxD, hcD⟩ := int_at HD.out hlt
        have hNe : (tellE x).1 = N := by rw [List.getElem?_map, hx] at hxN; simpa using hxN
        have hDe : (tellE x).2 = D := by rw [List.getElem?_map, hx] at hxD; simpa using hxD
        have hrt := right_tell (x := x)
        rw [hNe, hDe] at hrt
        have HC := Lib.hid (fun W (hW : Below w3.heap.size w3 W) => (show W.cell? ⟨b0, o0 + k * 6, none⟩ = some (.int .i64 x.op) ∧ W.cell? ⟨b0, o0 + k * 6 + 1, none⟩ = some (.int .i64 x.n) ∧ W.cell? ⟨b0, o0 + k * 6 + 2, none⟩ = some (.string x.s) ∧ W.cell? ⟨b0, o0 + k * 6 + 3, none⟩ = some (.string x.name) ∧ W.cell? ⟨b0, o0 + k * 6 + 4, none⟩ = some (.string x.src) ∧ W.cell? ⟨b0, o0 + k * 6 + 5, none⟩ = some (.slice Aa ma ca) ∧ W.cell? ⟨b1, o1 + k, none⟩ = some (.int .i64 N) ∧ W.cell? ⟨b2, o2 + k, none⟩ = some (.int .i64 D) ∧ b0 < W.heap.size ∧ b1 < W.heap.size ∧ b2 < W.heap.size from by
          have hall := Hb23.out.trans (hW.mono Hb23.out.size)
          have l0 := Nat.lt_of_lt_of_le hbl hall.size
          have l1 := Nat.lt_of_lt_of_le hbl1 hall.size
          have l2 := Nat.lt_of_lt_of_le hbl2 hall.size
          have g : ∀ j u, (rowOf x Aa ma ca)[j]? = some u → W.cell? ⟨b0, o0 + k * 6 + j, none⟩ = some u := fun j u hj => (hall.cell (p := ⟨b0, o0 + k * 6 + j, none⟩) hbl).trans (hc j u hj)
          exact ⟨by simpa using g 0 _ rfl, g 1 _ rfl, g 2 _ rfl, g 3 _ rfl, g 4 _ rfl, g 5 _ rfl, (hall.cell (p := ⟨b1, o1 + k, none⟩) hbl1).trans hcN, (hall.cell (p := ⟨b2, o2 + k, none⟩) hbl2).trans hcD, l0, l1, l2⟩))
        have Hpx := Lib.hid (fun W (hW : Below w3.heap.size w3 W) => hp.below (Hb23.out.trans (hW.mono Hb23.out.size)))
        have Hpe := Lib.hid (fun W (hW : Below w3.heap.size w3 W) => printExpr_any _ 50 x _ W (Hpx.out W hW) (by omega) (fun k hk => Nat.lt_of_lt_of_le hk.1 (Nat.le_trans Hb23.out.size hW.size)) (Hm.out.below Hm.out.lt (Hb3.out.trans (hW.mono Hb3.out.size))) (fun hr => right_len (Hpx.out W hW) (by omega) hr))
        have Hbe := Lib.hid (fun W (hW : Below w3.heap.size w3 W) => rbuilt_any _ 50 x _ W (Hpx.out W hW))
        have Hnl := Lib.hid (fun W (hW : Below w3.heap.size w3 W) => newline_any 50 _ x _ W (Hpx.out W hW))
        have Hre := Lib.hid (fun W (hW : Below w3.heap.size w3 W) (hb : builtE 50 x = true) (hr : rightE 50 x = true) => refExpr_any 50 _ x _ W (Hpx.out W hW) hb (right_len (Hpx.out W hW) (by omega) hr))
        have i1 : (0 : Int) ≤ (k : Int) := by omega
        have i2 : (k : Int) < (es.length : Int) := by omega
        obtain ⟨z0, z1, z2, z3, z4, z5, v0, v1, l0, l1, l2⟩ := HC.out _ hW
        have HF := Lib.hid hFb
        have Hto := Lib.hid (fun W => told_any 50 x W)
        have Hno := Lib.hid (exprS_no (d := 50) (e := x))
        have Hwr := Lib.hid hW
        clear hp hc hx hxN hxD hcN hcD hbl hbl1 hbl2 hNe hDe hrl hW hFb
        have Hrt := Lib.hid hrt
        clear hrt
        rcases Bool.eq_false_or_eq_true (decide (N ≤ 300)) with t1 | t1
        · rcases Bool.eq_false_or_eq_true (decide (D ≤ 12)) with t2 | t2
          · rcases Bool.eq_false_or_eq_true (builtE 50 x) with t3 | t3
            · rcases Bool.eq_false_or_eq_true (nlE 50 x) with t4 | t4
              · have Hs := Lib.hid (Hno.out (.inr t4))
                have Hp2 := Lib.hid (fun W (hW : Below w3.heap.size w3 W) => (show Calls Tryd.prog 7 #[.agg (rowOf x Aa ma ca).toArray] W fun y w9 => y = .returned (.tuple #[.string ⟨#[]⟩, .int .i64 1]) ∧ Below W.heap.size W w9 from by
                  have h := Hpe.out W hW
                  rw [Hs.out] at h
                  exact h))
                clear Hs Hto Hno Hrt Hpe
                rw [t3] at Hbe
                rw [t4] at Hnl
                clear Hre t3 t4
                go_wp2_with (go_at_call 7; refine (Hp2.out _ Hwr.out).mono ?_)
                rintro x wa ⟨rfl, hbwa⟩
                have Hwa := Lib.hid (Hwr.out.trans (hbwa.mono Hwr.out.size))
                clear p0 p1 p2 p3 p4 p5 pl z0 z1 z2 z3 z4 z5 v0 v1 l0 l1 l2
                clear hbwa
                obtain ⟨p0, p1, p2, p3, p4, p5, pl⟩ := Hx.out _ Hwa.out
                obtain ⟨z0, z1, z2, z3, z4, z5, v0, v1, l0, l1, l2⟩ := HC.out _ Hwa.out
                go_wp2_with (go_at_call 8; refine (Hbe.out _ Hwa.out).mono ?_)
                rintro x wb ⟨rfl, hbwb⟩
                have Hwb := Lib.hid (Hwa.out.trans (hbwb.mono Hwa.out.size))
                clear p0 p1 p2 p3 p4 p5 pl z0 z1 z2 z3 z4 z5 v0 v1 l0 l1 l2
                clear hbwb
                obtain ⟨p0, p1, p2, p3, p4, p5, pl⟩ := Hx.out _ Hwb.out
                obtain ⟨z0, z1, z2, z3, z4, z5, v0, v1, l0, l1, l2⟩ := HC.out _ Hwb.out
                go_wp2_with (go_at_call 9; refine (Hnl.out _ Hwb.out).mono ?_)
                rintro x wc ⟨rfl, hbwc⟩
                have Hwc := Lib.hid (Hwb.out.trans (hbwc.mono Hwb.out.size))
                clear p0 p1 p2 p3 p4 p5 pl z0 z1 z2 z3 z4 z5 v0 v1 l0 l1 l2
                clear hbwc
                obtain ⟨p0, p1, p2, p3, p4, p5, pl⟩ := Hx.out _ Hwc.out
                obtain ⟨z0, z1, z2, z3, z4, z5, v0, v1, l0, l1, l2⟩ := HC.out _ Hwc.out
                go_wp2_with (go_at_call 11; refine (told_no _ _).mono ?_; rintro x wt ⟨rfl, rfl⟩)
                go_roundw
                case rel => exact ⟨k + 1, by omega, by go_num, Hwc.out⟩
                case measure => simp [intOf]; omega
              · have hr : rightE 50 x = true := by rw [Hrt.out, t1, t2, t3]; rfl
                have Hre2 := Lib.hid (fun W hW => Hre.out W hW t3 hr)
                rw [hr, t4] at Hto
                simp only [Bool.not_false, Bool.and_true, if_true] at Hto
                rw [t3] at Hbe
                rw [t4] at Hnl
                clear Hre hr Hno Hrt t3 t4
                generalize (exprS 50 x).2 = TE at *
                obtain ⟨TS, hTS⟩ : ∃ TS : ByteArray, (⟨(exprS 50 x).1.toArray⟩ : ByteArray) = TS := ⟨_, rfl⟩
                obtain ⟨TX, hTX⟩ : ∃ TX : ByteArray, (⟨(txtE 50 x).toArray⟩ : ByteArray) = TX := ⟨_, rfl⟩
                rw [hTS] at Hto Hpe
                rw [hTX] at Hto Hre2
                clear hTS hTX
                go_wp2_with (go_at_call 7; refine (Hpe.out _ Hwr.out).mono ?_)
                rintro x wa ⟨rfl, hbwa⟩
                have Hwa := Lib.hid (Hwr.out.trans (hbwa.mono Hwr.out.size))
                clear p0 p1 p2 p3 p4 p5 pl z0 z1 z2 z3 z4 z5 v0 v1 l0 l1 l2
                clear hbwa
                obtain ⟨p0, p1, p2, p3, p4, p5, pl⟩ := Hx.out _ Hwa.out
                obtain ⟨z0, z1, z2, z3, z4, z5, v0, v1, l0, l1, l2⟩ := HC.out _ Hwa.out
                go_wp2_with (go_at_call 8; refine (Hbe.out _ Hwa.out).mono ?_)
                rintro x wb ⟨rfl, hbwb⟩
                have Hwb := Lib.hid (Hwa.out.trans (hbwb.mono Hwa.out.size))
                clear p0 p1 p2 p3 p4 p5 pl z0 z1 z2 z3 z4 z5 v0 v1 l0 l1 l2
                clear hbwb
                obtain ⟨p0, p1, p2, p3, p4, p5, pl⟩ := Hx.out _ Hwb.out
                obtain ⟨z0, z1, z2, z3, z4, z5, v0, v1, l0, l1, l2⟩ := HC.out _ Hwb.out
                go_wp2_with (go_at_call 9; refine (Hnl.out _ Hwb.out).mono ?_)
                rintro x wc ⟨rfl, hbwc⟩
                have Hwc := Lib.hid (Hwb.out.trans (hbwc.mono Hwb.out.size))
                clear p0 p1 p2 p3 p4 p5 pl z0 z1 z2 z3 z4 z5 v0 v1 l0 l1 l2
                clear hbwc
                obtain ⟨p0, p1, p2, p3, p4, p5, pl⟩ := Hx.out _ Hwc.out
                obtain ⟨z0, z1, z2, z3, z4, z5, v0, v1, l0, l1, l2⟩ := HC.out _ Hwc.out
                go_wp2_with (go_at_call 10; refine (Hre2.out _ Hwc.out).mono ?_)
                rintro x wd ⟨rfl, hbwd⟩
                have Hwd := Lib.hid (Hwc.out.trans (hbwd.mono Hwc.out.size))
                clear p0 p1 p2 p3 p4 p5 pl z0 z1 z2 z3 z4 z5 v0 v1 l0 l1 l2
                clear hbwd
                obtain ⟨p0, p1, p2, p3, p4, p5, pl⟩ := Hx.out _ Hwd.out
                obtain ⟨z0, z1, z2, z3, z4, z5, v0, v1, l0, l1, l2⟩ := HC.out _ Hwd.out
                go_wp2_with (go_at_call 11; refine (Hto.out _).mono ?_; rintro x wt ⟨rfl, rfl⟩)
                go_roundw
                case rel => exact ⟨k + 1, by omega, by go_num, Hwd.out⟩
                case measure => simp [intOf]; omega
            · have Hs := Lib.hid (Hno.out (.inl (by rw [Hrt.out, t1, t2, t3]; rfl)))
              have Hp2 := Lib.hid (fun W (hW : Below w3.heap.size w3 W) => (show Calls Tryd.prog 7 #[.agg (rowOf x Aa ma ca).toArray] W fun y w9 => y = .returned (.tuple #[.string ⟨#[]⟩, .int .i64 1]) ∧ Below W.heap.size W w9 from by
                have h := Hpe.out W hW
                rw [Hs.out] at h
                exact h))
              clear Hs Hto Hno Hrt Hpe
              rw [t3] at Hbe
              clear Hre Hnl t3
              go_wp2_with (go_at_call 7; refine (Hp2.out _ Hwr.out).mono ?_)
              rintro x wa ⟨rfl, hbwa⟩
              have Hwa := Lib.hid (Hwr.out.trans (hbwa.mono Hwr.out.size))
              clear p0 p1 p2 p3 p4 p5 pl z0 z1 z2 z3 z4 z5 v0 v1 l0 l1 l2
              clear hbwa
              obtain ⟨p0, p1, p2, p3, p4, p5, pl⟩ := Hx.out _ Hwa.out
              obtain ⟨z0, z1, z2, z3, z4, z5, v0, v1, l0, l1, l2⟩ := HC.out _ Hwa.out
              go_wp2_with (go_at_call 8; refine (Hbe.out _ Hwa.out).mono ?_)
              rintro x wb ⟨rfl, hbwb⟩
              have Hwb := Lib.hid (Hwa.out.trans (hbwb.mono Hwa.out.size))
              clear p0 p1 p2 p3 p4 p5 pl z0 z1 z2 z3 z4 z5 v0 v1 l0 l1 l2
              clear hbwb
              obtain ⟨p0, p1, p2, p3, p4, p5, pl⟩ := Hx.out _ Hwb.out
              obtain ⟨z0, z1, z2, z3, z4, z5, v0, v1, l0, l1, l2⟩ := HC.out _ Hwb.out
              go_wp2_with (go_at_call 11; refine (told_no _ _).mono ?_; rintro x wt ⟨rfl, rfl⟩)
              go_roundw
              case rel => exact ⟨k + 1, by omega, by go_num, Hwb.out⟩
              case measure => simp [intOf]; omega
          · have Hs := Lib.hid (Hno.out (.inl (by rw [Hrt.out, t1, t2]; rfl)))
            have Hp2 := Lib.hid (fun W (hW : Below w3.heap.size w3 W) => (show Calls Tryd.prog 7 #[.agg (rowOf x Aa ma ca).toArray] W fun y w9 => y = .returned (.tuple #[.string ⟨#[]⟩, .int .i64 1]) ∧ Below W.heap.size W w9 from by
              have h := Hpe.out W hW
              rw [Hs.out] at h
              exact h))
            clear Hs Hto Hno Hrt Hpe
            clear Hre Hnl Hbe
            go_wp2_with (go_at_call 7; refine (Hp2.out _ Hwr.out).mono ?_)
            rintro x wa ⟨rfl, hbwa⟩
            have Hwa := Lib.hid (Hwr.out.trans (hbwa.mono Hwr.out.size))
            clear p0 p1 p2 p3 p4 p5 pl z0 z1 z2 z3 z4 z5 v0 v1 l0 l1 l2
            clear hbwa
            obtain ⟨p0, p1, p2, p3, p4, p5, pl⟩ := Hx.out _ Hwa.out
            obtain ⟨z0, z1, z2, z3, z4, z5, v0, v1, l0, l1, l2⟩ := HC.out _ Hwa.out
            go_wp2_with (go_at_call 11; refine (told_no _ _).mono ?_; rintro x wt ⟨rfl, rfl⟩)
            go_roundw
            case rel => exact ⟨k + 1, by omega, by go_num, Hwa.out⟩
            case measure => simp [intOf]; omega
        · have Hs := Lib.hid (Hno.out (.inl (by rw [Hrt.out, t1]; rfl)))
          have Hp2 := Lib.hid (fun W (hW : Below w3.heap.size w3 W) => (show Calls Tryd.prog 7 #[.agg (rowOf x Aa ma ca).toArray] W fun y w9 => y = .returned (.tuple #[.string ⟨#[]⟩, .int .i64 1]) ∧ Below W.heap.size W w9 from by
            have h := Hpe.out W hW
            rw [Hs.out] at h
            exact h))
          clear Hs Hto Hno Hrt Hpe
          clear Hre Hnl Hbe
          go_wp2_with (go_at_call 7; refine (Hp2.out _ Hwr.out).mono ?_)
          rintro x wa ⟨rfl, hbwa⟩
          have Hwa := Lib.hid (Hwr.out.trans (hbwa.mono Hwr.out.size))
          clear p0 p1 p2 p3 p4 p5 pl z0 z1 z2 z3 z4 z5 v0 v1 l0 l1 l2
          clear hbwa
          obtain ⟨p0, p1, p2, p3, p4, p5, pl⟩ := Hx.out _ Hwa.out
          obtain ⟨z0, z1, z2, z3, z4, z5, v0, v1, l0, l1, l2⟩ := HC.out _ Hwa.out
          go_wp2_with (go_at_call 11; refine (told_no _ _).mono ?_; rintro x wt ⟨rfl, rfl⟩)
          go_roundw
          case rel => exact ⟨k + 1, by omega, by go_num, Hwa.out⟩
          case measure => simp [intOf]; omega
      · have HW := Lib.hid hW
        clear hW
        go_wp2_with (go_at_call 5; refine (Haw.out _ (Hb3.out.trans (HW.out.mono Hb3.out.size))).mono ?_)
        rintro x w4 ⟨rfl, hb4⟩
        have H4 := Lib.hid ((Hb3.out.trans (HW.out.mono Hb3.out.size)).trans (hb4.mono (Hb3.out.trans (HW.out.mono Hb3.out.size)).size))
        clear hb4
        go_wp2
        go_ret
        exact ⟨rfl, H4.out⟩
  · go_wp2_with (go_at_call 5; refine (Haw.out _ (Below.refl _ _)).mono ?_)
    rintro x w4 ⟨rfl, hb4⟩
    have H4 := Lib.hid hb4
    clear hb4
    go_wp2
    go_ret
    exact ⟨rfl, H4.out⟩
end Go.Proofs.YthiimingnmbgmaaDoor
