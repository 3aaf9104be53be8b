/- Parts of this proof, one behind the other: ParZ4. -/
import Derived.Test.YtlakeanldbdedaaGreatPr38
namespace Go.Proofs.YtlakeanldbdedaaGreat
open Go.RowKit Go.Afx

theorem sizePr : (Tryz.prog.info? 25).map (·.size) = some 6 := by kernel_rfl
theorem ret_pr {fn : Func} {p : Tmp} {tmps : Array Value} {w : World} {g : Nat} {t : TypeId} {cs : Array Value} (h : fn.results = #[.cell p 25]) (hp : tmps.getD p undef = .pointer (some ⟨g, 0, none⟩)) (hk : IsBlk w g t cs) (hz : cs.size = 6) : (results fn tmps).run Tryz.prog w = .ok (.agg cs) w :=
  results_cell_row h tmps w g t cs (0, 0) _ hp hk Tryz.underlying25 rfl (by rw [hz]; exact sizePr)
theorem from_ok {gp gc gw : Nat} {W : Wds} {s : PSt} {w : World} (h : PAt gp gc gw W s w) (s' : PSt) : okS (fromP W s').1.1 ∧ okS (fromP W s').1.2 := by
  unfold fromP
  split
  · exact ⟨okS_0, name_ok h _⟩
  · split
    · exact ⟨name_ok h _, okS_0⟩
    · exact ⟨okS_0, okS_0⟩
theorem fuel_ok {gp gc gw : Nat} {W : Wds} {s : PSt} {w : World} (h : PAt gp gc gw W s w) (s' : PSt) : okI (fuelP W s').1 := by
  rw [fuelP_eq]
  split
  · have h1 := num_ok h (mayP W (str [102, 117, 101, 108]) s').2
    generalize (numP W (mayP W (str [102, 117, 101, 108]) s').2).1 = n at *
    obtain ⟨h2, h3⟩ := h1
    constructor
    · show _ ≤ min n 2001; omega
    · show min n 2001 ≤ _; omega
  · constructor <;> simp
set_option maxRecDepth 100000 in
set_option maxHeartbeats 8000000 in
theorem pProc_any (gp gc gw : Nat) (W : Wds) (hW : W.l.length ≤ 1000000) (s : PSt) (w : World) (h : PAt gp gc gw W s w) : Calls Tryz.prog 16 #[.pointer (some ⟨gp, 0, none⟩)] w (GivesP gp gc gw W (procP W s).2 (procP W s).1 w) := by
  have hz := And.intro h.lt.1 (And.intro h.lt.2 h.wl)
  obtain ⟨w1, Hw1⟩ : ∃ w1, Hid (w1 = (w.alloc (.cells #[.pointer (some ⟨gp, 0, none⟩)] 50)).alloc (.cells zeroP 25)) := ⟨_, rfl⟩
  have hb1 : Below w.heap.size w w1 := by rw [Hw1.out]; exact ((Below.refl _ _).alloc (Nat.le_refl _) _).alloc (by simp) _
  have hkb : IsBlk w1 w.heap.size 50 #[.pointer (some ⟨gp, 0, none⟩)] := by rw [Hw1.out]; exact (IsBlk.laid _ _ _).alloc _
  have hkr : IsBlk w1 (w.heap.size + 1) 25 zeroP := by rw [Hw1.out]; exact blk_new (by simp)
  have hsz : w1.heap.size = w.heap.size + 2 := by rw [Hw1.out]; simp
  have hm1 := pMust_any gp gc gw w1.heap.size W s (str [112, 114, 111, 99]) w1 (h.below hb1) rfl
  have hmo := fun g (t : ByteArray) s' w2 (hW : PAt gp gc gw W s' w2) (hg : g = w2.heap.size) => pMust_any gp gc gw g W s' t w2 hW hg
  have hma := fun (t : ByteArray) s' w2 (hW : PAt gp gc gw W s' w2) => pMay_any gp gc gw W s' t w2 hW
  have hna := fun s' w2 (hW : PAt gp gc gw W s' w2) => pName_any gp gc gw W s' w2 hW
  rw [procP_eq]
  generalize mustP W [str [112, 114, 111, 99]] s = sm at *
  simp only [str] at hm1
  have hn1 := fun w2 (hW : PAt gp gc gw W sm w2) => pName_any gp gc gw W sm w2 hW
  have hokn := name_ok h sm
  generalize nameP W sm = a at *
  obtain ⟨nm, sa⟩ := a
  simp only at hn1 hokn ⊢
  have hm2 := fun g w2 (hW : PAt gp gc gw W sa w2) (hg : g = w2.heap.size) => pMust_any gp gc gw g W sa (str [40]) w2 hW hg
  generalize mustP W [str [40]] sa = sp at *
  simp only [str] at hm2
  have hen := fun w2 (hW : PAt gp gc gw W sp w2) => pEnter_any gp gc gw W sp w2 hW
  generalize enterP sp = se at *
  have his := fun g w2 (hW : PAt gp gc gw W se w2) (hg : g = w2.heap.size) => pIs_any hW (str [41]) g hg
  have hhd : headP W se = if isP W se (str [41]) then ([], se) else list1 W (paramP W) se := rfl
  have hli := fun gl gb n0 w2 (hW : PAt gp gc gw W se w2) => pList_params gp gc gw gl gb n0 W se w2 nm hW
  generalize isP W se (str [41]) = q at *
  simp only [str] at his
  generalize list1 W (paramP W) se = l1 at *
  generalize headP W se = hd at *
  obtain ⟨ps, sl⟩ := hd
  simp only at hhd ⊢
  have hm3 := fun g w2 (hW : PAt gp gc gw W sl w2) (hg : g = w2.heap.size) => pMust_any gp gc gw g W sl (str [41]) w2 hW hg
  generalize mustP W [str [41]] sl = sr at *
  simp only [str] at hm3
  have hle := fun w2 (hW : PAt gp gc gw W sr w2) => pLeave_any gp gc gw W sr w2 hW
  generalize leaveP sr = s2 at *
  have hfr : fromP W s2 = if (mayP W (str [111, 110]) s2).1 then ((nil0, (nameP W (mayP W (str [111, 110]) s2).2).1), (nameP W (mayP W (str [111, 110]) s2).2).2) else if (mayP W (str [102, 114, 111, 109]) s2).1 then (((nameP W (mayP W (str [102, 114, 111, 109]) s2).2).1, nil0), (nameP W (mayP W (str [102, 114, 111, 109]) s2).2).2) else ((nil0, nil0), s2) := rfl
  have hokf := from_ok h s2
  generalize fromP W s2 = fr at *
  obtain ⟨⟨src, part⟩, s3⟩ := fr
  simp only at hfr hokf ⊢
  have hfu := fuelP_eq W s3
  have hoku := fuel_ok h s3
  generalize fuelP W s3 = fu at *
  obtain ⟨fu, s4⟩ := fu
  simp only at hfu hoku ⊢
  have hbl := fun w2 (hP : PAt gp gc gw W s4 w2) => pBlock1_any gp gc gw W hW s4 w2 hP
  generalize block1 W s4 = b at *
  obtain ⟨bl, sb⟩ := b
  simp only at hbl ⊢
  have Hz := Lib.hid hz
  have Hb1 := Lib.hid hb1
  have Hkb := Lib.hid hkb
  have Hkr := Lib.hid hkr
  have Hsz := Lib.hid hsz
  have Hm1 := Lib.hid hm1
  have Hma := Lib.hid hma
  have Hna := Lib.hid hna
  have Hn1 := Lib.hid hn1
  have Hok := Lib.hid (And.intro hokn (And.intro hokf.1 (And.intro hokf.2 hoku)))
  have Hm2 := Lib.hid hm2
  have Hen := Lib.hid hen
  have His := Lib.hid his
  have Hhd := Lib.hid hhd
  have Hli := Lib.hid hli
  have Hm3 := Lib.hid hm3
  have Hle := Lib.hid hle
  have Hfr := Lib.hid hfr
  have Hfu := Lib.hid hfu
  have Hbl := Lib.hid hbl
  have d0 : w1.cell? ⟨w.heap.size, 0, none⟩ = some (.pointer (some ⟨gp, 0, none⟩)) := by have := hkb.cell 0; simpa using this
  have dl := hkb.lt
  have Hnu := Lib.hid (fun s' w2 (hW : PAt gp gc gw W s' w2) => pNumber_any gp gc gw W s' w2 hW)
  clear hz hb1 hkb hkr hsz hm1 hma hna hn1 hokn hokf hoku hm2 hen his hhd hli hm3 hle hfr hfu hbl hmo h hW
  go_enter Tryz.func16, Tryz.ntmps16
  go_upto_region 1 with (fail)
  rw [← Hw1.out]
  go_wp2_with (fail)
  refine Hm1.out.mono ?_
  rintro e w2 ⟨rfl, hP, hB⟩
  have hz := Hz.out
  have hkb2 := on2_blk Hkb.out hB (by omega)
  have hkr2 := on2_blk Hkr.out hB (by omega)
  have hs2 := hB.size
  clear d0 dl
  have d0 : w2.cell? ⟨w.heap.size, 0, none⟩ = some (.pointer (some ⟨gp, 0, none⟩)) := by have := hkb2.cell 0; simpa using this
  have dl := hkb2.lt
  have H2 := Lib.hid (And.intro hP (And.intro ((But.of_below Hb1.out).trans' hB) (And.intro hkb2 (And.intro hkr2 hs2))))
  clear hP hB hkb2 hkr2 hz hs2
  go_wp2_with (fail)
  refine (Hn1.out _ H2.out.1).mono ?_
  rintro e w3 ⟨rfl, hP, hB⟩
  have hz := Hz.out
  have hs1 := Hsz.out
  have hs2 := H2.out.2.2.2.2
  have hs3 := hB.size
  have hkb3 := on2_blk H2.out.2.2.1 hB (by omega)
  have hkr3 := on2_blk H2.out.2.2.2.1 hB (by omega)
  have hal := (Below.refl w3.heap.size w3).alloc (Nat.le_refl _) (.cells #[.string nm, .string ⟨#[]⟩, .string ⟨#[]⟩, .int .i64 100, .slice none 0 0, .slice none 0 0] 25)
  have hT : Prc gp gc gw w.heap.size (w.heap.size + 1) w3.heap.size W sa w (w3.alloc (.cells #[.string nm, .string ⟨#[]⟩, .string ⟨#[]⟩, .int .i64 100, .slice none 0 0, .slice none 0 0] 25)) nm ⟨#[]⟩ ⟨#[]⟩ 100 none 0 [] :=
    ⟨hP.below hal, (H2.out.2.1.trans' hB).trans' (But.of_below hal), hkb3.alloc _, hkr3.alloc _, IsBlk.laid _ _ _, LsAt.nil_ _ _ _ _, by omega⟩
  obtain ⟨gx, Hgx⟩ : ∃ gx, Hid (gx = w3.heap.size) := ⟨_, rfl⟩
  obtain ⟨w4, Hw4⟩ : ∃ w4, Hid (w4 = w3.alloc (.cells #[.string nm, .string ⟨#[]⟩, .string ⟨#[]⟩, .int .i64 100, .slice none 0 0, .slice none 0 0] 25)) := ⟨_, rfl⟩
  rw [← Hgx.out, ← Hw4.out] at hT
  obtain ⟨gr, Hgr⟩ : ∃ gr, Hid (gr = w.heap.size + 1) := ⟨_, rfl⟩
  rw [← Hgr.out] at hT
  clear d0 dl
  have d0 : w3.cell? ⟨w.heap.size, 0, none⟩ = some (.pointer (some ⟨gp, 0, none⟩)) := by have := hkb3.cell 0; simpa using this
  have dl := hkb3.lt
  have HT := Lib.hid hT
  clear hP hB hz hs1 hs2 hs3 hkb3 hkr3 hal hT
  go_upto_region 3 with (fail)
  rw [← Hw4.out, ← Hgx.out]
  clear d0 dl
  have d0 : w4.cell? ⟨w.heap.size, 0, none⟩ = some (.pointer (some ⟨gp, 0, none⟩)) := by have := HT.out.kb.cell 0; simpa using this
  have dl := HT.out.kb.lt
  go_wp2_with (fail)
  refine (Hm2.out _ _ HT.out.p rfl).mono ?_
  rintro e w5 ⟨rfl, hP, hB⟩
  have HT5 := Lib.hid (HT.out.on2 hP hB)
  clear hP hB d0 dl
  have d0 : w5.cell? ⟨w.heap.size, 0, none⟩ = some (.pointer (some ⟨gp, 0, none⟩)) := by have := HT5.out.kb.cell 0; simpa using this
  have dl := HT5.out.kb.lt
  go_wp2_with (fail)
  refine (Hen.out _ HT5.out.p).mono ?_
  rintro e w6 ⟨rfl, hP, hB⟩
  have HT6 := Lib.hid (HT5.out.on2 hP hB)
  clear hP hB d0 dl
  have d0 : w6.cell? ⟨w.heap.size, 0, none⟩ = some (.pointer (some ⟨gp, 0, none⟩)) := by have := HT6.out.kb.cell 0; simpa using this
  have dl := HT6.out.kb.lt
  obtain ⟨e0, e1, e2, e3, el⟩ := cells4 HT6.out.p.blk
  go_wp2_with (fail)
  refine (His.out _ _ HT6.out.p rfl).mono ?_
  rintro e w7 ⟨rfl, hP, hB⟩
  have HT7 := Lib.hid (HT6.out.on2 hP (But.of_below hB))
  clear hP hB d0 dl e0 e1 e2 e3 el
  go_upto_if 21 with (fail)
  go_cut [] (fun wr => ∃ A c, Prc gp gc gw w.heap.size gr gx W sl w wr nm ⟨#[]⟩ ⟨#[]⟩ 100 A c ps)
  case first =>
    cases q with
    | true =>
      have hh : (ps, sl) = ([], se) := Hhd.out
      simp only [Prod.mk.injEq] at hh
      obtain ⟨rfl, rfl⟩ := hh
      go_wp2
      go_meet
      exact ⟨none, 0, HT7.out⟩
    | false =>
      have hh : (ps, sl) = l1 := Hhd.out
      subst hh
      have d0 : w7.cell? ⟨w.heap.size, 0, none⟩ = some (.pointer (some ⟨gp, 0, none⟩)) := by have := HT7.out.kb.cell 0; simpa using this
      have dl := HT7.out.kb.lt
      have hne := HT7.out.ne
      have hgl := HT7.out.kx.lt
      have hl := Hli.out gx w.heap.size (gx + 1) _ HT7.out.p ⟨HT7.out.kx, World.ownsRow_nil _ _ _ _, by simp⟩ HT7.out.kb (by omega) (by omega) (by omega)
      have Hl := Lib.hid hl
      clear hne hgl hl
      go_wp2_with (fail)
      refine Hl.out.mono ?_
      rintro e w8 ⟨rfl, hP, ⟨A, c, hL⟩, hB⟩
      have HT8 := Lib.hid (HT7.out.listed hP hL hB)
      clear hP hL hB d0 dl
      go_wp2
      go_meet
      exact ⟨A, c, HT8.out⟩
  case rest =>
    obtain ⟨A, c, hT⟩ := hcut
    have d0 : wc.cell? ⟨w.heap.size, 0, none⟩ = some (.pointer (some ⟨gp, 0, none⟩)) := by have := hT.kb.cell 0; simpa using this
    have dl := hT.kb.lt
    have HT8 := Lib.hid hT
    clear hT
    go_wp2_with (fail)
    refine (Hm3.out _ _ HT8.out.p rfl).mono ?_
    rintro e w9 ⟨rfl, hP, hB⟩
    have HT9 := Lib.hid (HT8.out.on2 hP hB)
    clear hP hB d0 dl
    have d0 : w9.cell? ⟨w.heap.size, 0, none⟩ = some (.pointer (some ⟨gp, 0, none⟩)) := by have := HT9.out.kb.cell 0; simpa using this
    have dl := HT9.out.kb.lt
    go_wp2_with (fail)
    refine (Hle.out _ HT9.out.p).mono ?_
    rintro e w10 ⟨rfl, hP, hB⟩
    have HT10 := Lib.hid (HT9.out.on2 hP hB)
    clear hP hB d0 dl
    have d0 : w10.cell? ⟨w.heap.size, 0, none⟩ = some (.pointer (some ⟨gp, 0, none⟩)) := by have := HT10.out.kb.cell 0; simpa using this
    have dl := HT10.out.kb.lt
    have hfr := Hfr.out
    rcases may_cases W (str [111, 110]) s2 with ho | ⟨ho, _, _⟩
    · have hm := Hma.out (str [111, 110]) s2 w10 HT10.out.p
      rw [ho] at hm hfr
      simp only [Bool.false_eq_true, if_false] at hfr
      simp only [str] at hm
      have Hm := Lib.hid hm
      clear hm ho
      go_wp2_with (fail)
      refine Hm.out.mono ?_
      rintro e w11 ⟨rfl, hP, hB⟩
      have HT11 := Lib.hid (HT10.out.on2 hP hB)
      clear hP hB d0 dl
      have d0 : w11.cell? ⟨w.heap.size, 0, none⟩ = some (.pointer (some ⟨gp, 0, none⟩)) := by have := HT11.out.kb.cell 0; simpa using this
      have dl := HT11.out.kb.lt
      rcases may_cases W (str [102, 114, 111, 109]) s2 with hf | ⟨hf, _, _⟩
      · have hm := Hma.out (str [102, 114, 111, 109]) s2 w11 HT11.out.p
        rw [hf] at hm hfr
        simp only [Bool.false_eq_true, if_false, Prod.mk.injEq] at hfr
        obtain ⟨⟨rfl, rfl⟩, rfl⟩ := hfr
        simp only [str] at hm
        have Hm := Lib.hid hm
        clear hm hf
        go_wp2_with (fail)
        refine Hm.out.mono ?_
        rintro e w12 ⟨rfl, hP, hB⟩
        have HT12 := Lib.hid (HT11.out.on2 hP hB)
        clear hP hB d0 dl
        go_upto_region 13 with (fail)
        have hfu := Hfu.out
        rcases may_cases W (str [102, 117, 101, 108]) s3 with hc | ⟨hc, _, _⟩
        · have hm := Hma.out (str [102, 117, 101, 108]) s3 w12 HT12.out.p
          rw [hc] at hm hfu
          simp only [Bool.false_eq_true, if_false, Prod.mk.injEq] at hfu
          obtain ⟨rfl, rfl⟩ := hfu
          simp only [str] at hm
          have Hm := Lib.hid hm
          clear hm hc
          have d0 : w12.cell? ⟨w.heap.size, 0, none⟩ = some (.pointer (some ⟨gp, 0, none⟩)) := by have := HT12.out.kb.cell 0; simpa using this
          have dl := HT12.out.kb.lt
          go_wp2_with (fail)
          refine Hm.out.mono ?_
          rintro e w20 ⟨rfl, hP, hB⟩
          have HT20 := Lib.hid (HT12.out.on2 hP hB)
          clear hP hB d0 dl
          have d0 : w20.cell? ⟨w.heap.size, 0, none⟩ = some (.pointer (some ⟨gp, 0, none⟩)) := by have := HT20.out.kb.cell 0; simpa using this
          have dl := HT20.out.kb.lt
          go_wp2_with (fail)
          refine (Hbl.out _ HT20.out.p).mono ?_
          rintro e w30 ⟨Ab, nb, cb, D, rfl, hx, hP, hB⟩
          obtain ⟨hx0, hx1, hr1, hr2, hg⟩ := HT20.out.out Hok.out hx hP hB
          rw [Hgr.out] at hr1 hr2 hg
          obtain ⟨x0, x1, x2, x3, x4, x5, xl⟩ := cells6 hx0
          have fx := hx0.frozen
          obtain ⟨w31, Hw31⟩ : ∃ w31, Hid (w31 = w30.setCell ⟨gx, 5, none⟩ (.slice Ab nb cb)) := ⟨_, rfl⟩
          have Hout := Lib.hid (And.intro hx1 (And.intro hr1 (And.intro hr2 hg)))
          clear hx hP hB hx0 hx1 hr1 hr2 hg d0 dl
          go_upto_region 16 with (fail)
          rw [← Hw31.out]
          clear x0 x1 x2 x3 x4 x5 xl fx
          rw [← Hw31.out] at Hout
          obtain ⟨x0, x1, x2, x3, x4, x5, xl⟩ := cells6 Hout.out.1
          obtain ⟨y0, y1, y2, y3, y4, y5, yl⟩ := cells6 Hout.out.2.1
          have fy := Hout.out.2.1.frozen
          go_wp2
          rw [lay6_eq]
          exact bodyPost_ret (ret_pr Tryz.results16 rfl Hout.out.2.2.1 rfl) rfl Hout.out.2.2.2
        · have hm := Hma.out (str [102, 117, 101, 108]) s3 w12 HT12.out.p
          rw [hc] at hm hfu
          simp only [if_true] at hfu
          simp only [str] at hm
          have hn := fun w2 (hW : PAt gp gc gw W s3.on w2) => Hnu.out s3.on w2 hW
          generalize numP W s3.on = r at *
          obtain ⟨rn, rs⟩ := r
          simp only [Prod.mk.injEq] at hfu hn
          obtain ⟨rfl, rfl⟩ := hfu
          have Hm := Lib.hid hm
          have Hn := Lib.hid hn
          clear hm hc hn
          have d0 : w12.cell? ⟨w.heap.size, 0, none⟩ = some (.pointer (some ⟨gp, 0, none⟩)) := by have := HT12.out.kb.cell 0; simpa using this
          have dl := HT12.out.kb.lt
          go_wp2_with (fail)
          refine Hm.out.mono ?_
          rintro e w20 ⟨rfl, hP, hB⟩
          have HT20 := Lib.hid (HT12.out.on2 hP hB)
          clear hP hB d0 dl
          have d0 : w20.cell? ⟨w.heap.size, 0, none⟩ = some (.pointer (some ⟨gp, 0, none⟩)) := by have := HT20.out.kb.cell 0; simpa using this
          have dl := HT20.out.kb.lt
          go_wp2_with (fail)
          refine (Hn.out _ HT20.out.p).mono ?_
          rintro e w21 ⟨rfl, hP, hB⟩
          have hT21 := HT20.out.on2 hP hB
          have hT22 := hT21.fuel_ (min rn 2001)
          obtain ⟨x0, x1, x2, x3, x4, x5, xl⟩ := cells6 hT21.kx
          have fx := hT21.kx.frozen
          obtain ⟨w22, Hw22⟩ : ∃ w22, Hid (w22 = w21.setCell ⟨gx, 3, none⟩ (.int .i64 (min rn 2001))) := ⟨_, rfl⟩
          rw [← Hw22.out] at hT22
          have HT22 := Lib.hid hT22
          clear hP hB d0 dl hT21 hT22
          go_upto_region 15 with (fail)
          rw [← Hw22.out]
          clear x0 x1 x2 x3 x4 x5 xl fx
          have d0 : w22.cell? ⟨w.heap.size, 0, none⟩ = some (.pointer (some ⟨gp, 0, none⟩)) := by have := HT22.out.kb.cell 0; simpa using this
          have dl := HT22.out.kb.lt
          go_wp2_with (fail)
          refine (Hbl.out _ HT22.out.p).mono ?_
          rintro e w30 ⟨Ab, nb, cb, D, rfl, hx, hP, hB⟩
          obtain ⟨hx0, hx1, hr1, hr2, hg⟩ := HT22.out.out Hok.out hx hP hB
          rw [Hgr.out] at hr1 hr2 hg
          obtain ⟨x0, x1, x2, x3, x4, x5, xl⟩ := cells6 hx0
          have fx := hx0.frozen
          obtain ⟨w31, Hw31⟩ : ∃ w31, Hid (w31 = w30.setCell ⟨gx, 5, none⟩ (.slice Ab nb cb)) := ⟨_, rfl⟩
          have Hout := Lib.hid (And.intro hx1 (And.intro hr1 (And.intro hr2 hg)))
          clear hx hP hB hx0 hx1 hr1 hr2 hg d0 dl
          go_upto_region 16 with (fail)
          rw [← Hw31.out]
          clear x0 x1 x2 x3 x4 x5 xl fx
          rw [← Hw31.out] at Hout
          obtain ⟨x0, x1, x2, x3, x4, x5, xl⟩ := cells6 Hout.out.1
          obtain ⟨y0, y1, y2, y3, y4, y5, yl⟩ := cells6 Hout.out.2.1
          have fy := Hout.out.2.1.frozen
          go_wp2
          rw [lay6_eq]
          exact bodyPost_ret (ret_pr Tryz.results16 rfl Hout.out.2.2.1 rfl) rfl Hout.out.2.2.2
      · have hm := Hma.out (str [102, 114, 111, 109]) s2 w11 HT11.out.p
        rw [hf] at hm hfr
        simp only [if_true] at hfr
        simp only [str] at hm
        have hn := fun w2 (hW : PAt gp gc gw W s2.on w2) => Hna.out s2.on w2 hW
        generalize nameP W s2.on = r at *
        obtain ⟨rn, rs⟩ := r
        simp only [Prod.mk.injEq] at hfr hn
        obtain ⟨⟨rfl, rfl⟩, rfl⟩ := hfr
        have Hm := Lib.hid hm
        have Hn := Lib.hid hn
        clear hm hf hn
        go_wp2_with (fail)
        refine Hm.out.mono ?_
        rintro e w11 ⟨rfl, hP, hB⟩
        have HT11 := Lib.hid (HT11.out.on2 hP hB)
        clear hP hB d0 dl
        have d0 : w11.cell? ⟨w.heap.size, 0, none⟩ = some (.pointer (some ⟨gp, 0, none⟩)) := by have := HT11.out.kb.cell 0; simpa using this
        have dl := HT11.out.kb.lt
        go_wp2_with (fail)
        refine (Hn.out _ HT11.out.p).mono ?_
        rintro e w12 ⟨rfl, hP, hB⟩
        have hT12 := HT11.out.on2 hP hB
        have hT13 := hT12.src_ src
        obtain ⟨x0, x1, x2, x3, x4, x5, xl⟩ := cells6 hT12.kx
        have fx := hT12.kx.frozen
        obtain ⟨w13, Hw13⟩ : ∃ w13, Hid (w13 = w12.setCell ⟨gx, 1, none⟩ (.string src)) := ⟨_, rfl⟩
        rw [← Hw13.out] at hT13
        have HT13 := Lib.hid hT13
        clear hP hB d0 dl hT12 hT13
        go_upto_region 13 with (fail)
        rw [← Hw13.out]
        clear x0 x1 x2 x3 x4 x5 xl fx
        have hfu := Hfu.out
        rcases may_cases W (str [102, 117, 101, 108]) s3 with hc | ⟨hc, _, _⟩
        · have hm := Hma.out (str [102, 117, 101, 108]) s3 w13 HT13.out.p
          rw [hc] at hm hfu
          simp only [Bool.false_eq_true, if_false, Prod.mk.injEq] at hfu
          obtain ⟨rfl, rfl⟩ := hfu
          simp only [str] at hm
          have Hm := Lib.hid hm
          clear hm hc
          have d0 : w13.cell? ⟨w.heap.size, 0, none⟩ = some (.pointer (some ⟨gp, 0, none⟩)) := by have := HT13.out.kb.cell 0; simpa using this
          have dl := HT13.out.kb.lt
          go_wp2_with (fail)
          refine Hm.out.mono ?_
          rintro e w20 ⟨rfl, hP, hB⟩
          have HT20 := Lib.hid (HT13.out.on2 hP hB)
          clear hP hB d0 dl
          have d0 : w20.cell? ⟨w.heap.size, 0, none⟩ = some (.pointer (some ⟨gp, 0, none⟩)) := by have := HT20.out.kb.cell 0; simpa using this
          have dl := HT20.out.kb.lt
          go_wp2_with (fail)
          refine (Hbl.out _ HT20.out.p).mono ?_
          rintro e w30 ⟨Ab, nb, cb, D, rfl, hx, hP, hB⟩
          obtain ⟨hx0, hx1, hr1, hr2, hg⟩ := HT20.out.out Hok.out hx hP hB
          rw [Hgr.out] at hr1 hr2 hg
          obtain ⟨x0, x1, x2, x3, x4, x5, xl⟩ := cells6 hx0
          have fx := hx0.frozen
          obtain ⟨w31, Hw31⟩ : ∃ w31, Hid (w31 = w30.setCell ⟨gx, 5, none⟩ (.slice Ab nb cb)) := ⟨_, rfl⟩
          have Hout := Lib.hid (And.intro hx1 (And.intro hr1 (And.intro hr2 hg)))
          clear hx hP hB hx0 hx1 hr1 hr2 hg d0 dl
          go_upto_region 16 with (fail)
          rw [← Hw31.out]
          clear x0 x1 x2 x3 x4 x5 xl fx
          rw [← Hw31.out] at Hout
          obtain ⟨x0, x1, x2, x3, x4, x5, xl⟩ := cells6 Hout.out.1
          obtain ⟨y0, y1, y2, y3, y4, y5, yl⟩ := cells6 Hout.out.2.1
          have fy := Hout.out.2.1.frozen
          go_wp2
          rw [lay6_eq]
          exact bodyPost_ret (ret_pr Tryz.results16 rfl Hout.out.2.2.1 rfl) rfl Hout.out.2.2.2
        · have hm := Hma.out (str [102, 117, 101, 108]) s3 w13 HT13.out.p
          rw [hc] at hm hfu
          simp only [if_true] at hfu
          simp only [str] at hm
          have hn := fun w2 (hW : PAt gp gc gw W s3.on w2) => Hnu.out s3.on w2 hW
          generalize numP W s3.on = r at *
          obtain ⟨rn, rs⟩ := r
          simp only [Prod.mk.injEq] at hfu hn
          obtain ⟨rfl, rfl⟩ := hfu
          have Hm := Lib.hid hm
          have Hn := Lib.hid hn
          clear hm hc hn
          have d0 : w13.cell? ⟨w.heap.size, 0, none⟩ = some (.pointer (some ⟨gp, 0, none⟩)) := by have := HT13.out.kb.cell 0; simpa using this
          have dl := HT13.out.kb.lt
          go_wp2_with (fail)
          refine Hm.out.mono ?_
          rintro e w20 ⟨rfl, hP, hB⟩
          have HT20 := Lib.hid (HT13.out.on2 hP hB)
          clear hP hB d0 dl
          have d0 : w20.cell? ⟨w.heap.size, 0, none⟩ = some (.pointer (some ⟨gp, 0, none⟩)) := by have := HT20.out.kb.cell 0; simpa using this
          have dl := HT20.out.kb.lt
          go_wp2_with (fail)
          refine (Hn.out _ HT20.out.p).mono ?_
          rintro e w21 ⟨rfl, hP, hB⟩
          have hT21 := HT20.out.on2 hP hB
          have hT22 := hT21.fuel_ (min rn 2001)
          obtain ⟨x0, x1, x2, x3, x4, x5, xl⟩ := cells6 hT21.kx
          have fx := hT21.kx.frozen
          obtain ⟨w22, Hw22⟩ : ∃ w22, Hid (w22 = w21.setCell ⟨gx, 3, none⟩ (.int .i64 (min rn 2001))) := ⟨_, rfl⟩
          rw [← Hw22.out] at hT22
          have HT22 := Lib.hid hT22
          clear hP hB d0 dl hT21 hT22
          go_upto_region 15 with (fail)
          rw [← Hw22.out]
          clear x0 x1 x2 x3 x4 x5 xl fx
          have d0 : w22.cell? ⟨w.heap.size, 0, none⟩ = some (.pointer (some ⟨gp, 0, none⟩)) := by have := HT22.out.kb.cell 0; simpa using this
          have dl := HT22.out.kb.lt
          go_wp2_with (fail)
          refine (Hbl.out _ HT22.out.p).mono ?_
          rintro e w30 ⟨Ab, nb, cb, D, rfl, hx, hP, hB⟩
          obtain ⟨hx0, hx1, hr1, hr2, hg⟩ := HT22.out.out Hok.out hx hP hB
          rw [Hgr.out] at hr1 hr2 hg
          obtain ⟨x0, x1, x2, x3, x4, x5, xl⟩ := cells6 hx0
          have fx := hx0.frozen
          obtain ⟨w31, Hw31⟩ : ∃ w31, Hid (w31 = w30.setCell ⟨gx, 5, none⟩ (.slice Ab nb cb)) := ⟨_, rfl⟩
          have Hout := Lib.hid (And.intro hx1 (And.intro hr1 (And.intro hr2 hg)))
          clear hx hP hB hx0 hx1 hr1 hr2 hg d0 dl
          go_upto_region 16 with (fail)
          rw [← Hw31.out]
          clear x0 x1 x2 x3 x4 x5 xl fx
          rw [← Hw31.out] at Hout
          obtain ⟨x0, x1, x2, x3, x4, x5, xl⟩ := cells6 Hout.out.1
          obtain ⟨y0, y1, y2, y3, y4, y5, yl⟩ := cells6 Hout.out.2.1
          have fy := Hout.out.2.1.frozen
          go_wp2
          rw [lay6_eq]
          exact bodyPost_ret (ret_pr Tryz.results16 rfl Hout.out.2.2.1 rfl) rfl Hout.out.2.2.2
    · have hm := Hma.out (str [111, 110]) s2 w10 HT10.out.p
      rw [ho] at hm hfr
      simp only [if_true] at hfr
      simp only [str] at hm
      have hn := fun w2 (hW : PAt gp gc gw W s2.on w2) => Hna.out s2.on w2 hW
      generalize nameP W s2.on = r at *
      obtain ⟨rn, rs⟩ := r
      simp only [Prod.mk.injEq] at hfr hn
      obtain ⟨⟨rfl, rfl⟩, rfl⟩ := hfr
      have Hm := Lib.hid hm
      have Hn := Lib.hid hn
      clear hm ho hn
      go_wp2_with (fail)
      refine Hm.out.mono ?_
      rintro e w11 ⟨rfl, hP, hB⟩
      have HT11 := Lib.hid (HT10.out.on2 hP hB)
      clear hP hB d0 dl
      have d0 : w11.cell? ⟨w.heap.size, 0, none⟩ = some (.pointer (some ⟨gp, 0, none⟩)) := by have := HT11.out.kb.cell 0; simpa using this
      have dl := HT11.out.kb.lt
      go_wp2_with (fail)
      refine (Hn.out _ HT11.out.p).mono ?_
      rintro e w12 ⟨rfl, hP, hB⟩
      have hT12 := HT11.out.on2 hP hB
      have hT13 := hT12.part_ part
      obtain ⟨x0, x1, x2, x3, x4, x5, xl⟩ := cells6 hT12.kx
      have fx := hT12.kx.frozen
      obtain ⟨w13, Hw13⟩ : ∃ w13, Hid (w13 = w12.setCell ⟨gx, 2, none⟩ (.string part)) := ⟨_, rfl⟩
      rw [← Hw13.out] at hT13
      have HT13 := Lib.hid hT13
      clear hP hB d0 dl hT12 hT13
      go_upto_region 13 with (fail)
      rw [← Hw13.out]
      clear x0 x1 x2 x3 x4 x5 xl fx
      have hfu := Hfu.out
      rcases may_cases W (str [102, 117, 101, 108]) s3 with hc | ⟨hc, _, _⟩
      · have hm := Hma.out (str [102, 117, 101, 108]) s3 w13 HT13.out.p
        rw [hc] at hm hfu
        simp only [Bool.false_eq_true, if_false, Prod.mk.injEq] at hfu
        obtain ⟨rfl, rfl⟩ := hfu
        simp only [str] at hm
        have Hm := Lib.hid hm
        clear hm hc
        have d0 : w13.cell? ⟨w.heap.size, 0, none⟩ = some (.pointer (some ⟨gp, 0, none⟩)) := by have := HT13.out.kb.cell 0; simpa using this
        have dl := HT13.out.kb.lt
        go_wp2_with (fail)
        refine Hm.out.mono ?_
        rintro e w20 ⟨rfl, hP, hB⟩
        have HT20 := Lib.hid (HT13.out.on2 hP hB)
        clear hP hB d0 dl
        have d0 : w20.cell? ⟨w.heap.size, 0, none⟩ = some (.pointer (some ⟨gp, 0, none⟩)) := by have := HT20.out.kb.cell 0; simpa using this
        have dl := HT20.out.kb.lt
        go_wp2_with (fail)
        refine (Hbl.out _ HT20.out.p).mono ?_
        rintro e w30 ⟨Ab, nb, cb, D, rfl, hx, hP, hB⟩
        obtain ⟨hx0, hx1, hr1, hr2, hg⟩ := HT20.out.out Hok.out hx hP hB
        rw [Hgr.out] at hr1 hr2 hg
        obtain ⟨x0, x1, x2, x3, x4, x5, xl⟩ := cells6 hx0
        have fx := hx0.frozen
        obtain ⟨w31, Hw31⟩ : ∃ w31, Hid (w31 = w30.setCell ⟨gx, 5, none⟩ (.slice Ab nb cb)) := ⟨_, rfl⟩
        have Hout := Lib.hid (And.intro hx1 (And.intro hr1 (And.intro hr2 hg)))
        clear hx hP hB hx0 hx1 hr1 hr2 hg d0 dl
        go_upto_region 16 with (fail)
        rw [← Hw31.out]
        clear x0 x1 x2 x3 x4 x5 xl fx
        rw [← Hw31.out] at Hout
        obtain ⟨x0, x1, x2, x3, x4, x5, xl⟩ := cells6 Hout.out.1
        obtain ⟨y0, y1, y2, y3, y4, y5, yl⟩ := cells6 Hout.out.2.1
        have fy := Hout.out.2.1.frozen
        go_wp2
        rw [lay6_eq]
        exact bodyPost_ret (ret_pr Tryz.results16 rfl Hout.out.2.2.1 rfl) rfl Hout.out.2.2.2
      · have hm := Hma.out (str [102, 117, 101, 108]) s3 w13 HT13.out.p
        rw [hc] at hm hfu
        simp only [if_true] at hfu
        simp only [str] at hm
        have hn := fun w2 (hW : PAt gp gc gw W s3.on w2) => Hnu.out s3.on w2 hW
        generalize numP W s3.on = r at *
        obtain ⟨rn, rs⟩ := r
        simp only [Prod.mk.injEq] at hfu hn
        obtain ⟨rfl, rfl⟩ := hfu
        have Hm := Lib.hid hm
        have Hn := Lib.hid hn
        clear hm hc hn
        have d0 : w13.cell? ⟨w.heap.size, 0, none⟩ = some (.pointer (some ⟨gp, 0, none⟩)) := by have := HT13.out.kb.cell 0; simpa using this
        have dl := HT13.out.kb.lt
        go_wp2_with (fail)
        refine Hm.out.mono ?_
        rintro e w20 ⟨rfl, hP, hB⟩
        have HT20 := Lib.hid (HT13.out.on2 hP hB)
        clear hP hB d0 dl
        have d0 : w20.cell? ⟨w.heap.size, 0, none⟩ = some (.pointer (some ⟨gp, 0, none⟩)) := by have := HT20.out.kb.cell 0; simpa using this
        have dl := HT20.out.kb.lt
        go_wp2_with (fail)
        refine (Hn.out _ HT20.out.p).mono ?_
        rintro e w21 ⟨rfl, hP, hB⟩
        have hT21 := HT20.out.on2 hP hB
        have hT22 := hT21.fuel_ (min rn 2001)
        obtain ⟨x0, x1, x2, x3, x4, x5, xl⟩ := cells6 hT21.kx
        have fx := hT21.kx.frozen
        obtain ⟨w22, Hw22⟩ : ∃ w22, Hid (w22 = w21.setCell ⟨gx, 3, none⟩ (.int .i64 (min rn 2001))) := ⟨_, rfl⟩
        rw [← Hw22.out] at hT22
        have HT22 := Lib.hid hT22
        clear hP hB d0 dl hT21 hT22
        go_upto_region 15 with (fail)
        rw [← Hw22.out]
        clear x0 x1 x2 x3 x4 x5 xl fx
        have d0 : w22.cell? ⟨w.heap.size, 0, none⟩ = some (.pointer (some ⟨gp, 0, none⟩)) := by have := HT22.out.kb.cell 0; simpa using this
        have dl := HT22.out.kb.lt
        go_wp2_with (fail)
        refine (Hbl.out _ HT22.out.p).mono ?_
        rintro e w30 ⟨Ab, nb, cb, D, rfl, hx, hP, hB⟩
        obtain ⟨hx0, hx1, hr1, hr2, hg⟩ := HT22.out.out Hok.out hx hP hB
        rw [Hgr.out] at hr1 hr2 hg
        obtain ⟨x0, x1, x2, x3, x4, x5, xl⟩ := cells6 hx0
        have fx := hx0.frozen
        obtain ⟨w31, Hw31⟩ : ∃ w31, Hid (w31 = w30.setCell ⟨gx, 5, none⟩ (.slice Ab nb cb)) := ⟨_, rfl⟩
        have Hout := Lib.hid (And.intro hx1 (And.intro hr1 (And.intro hr2 hg)))
        clear hx hP hB hx0 hx1 hr1 hr2 hg d0 dl
        go_upto_region 16 with (fail)
        rw [← Hw31.out]
        clear x0 x1 x2 x3 x4 x5 xl fx
        rw [← Hw31.out] at Hout
        obtain ⟨x0, x1, x2, x3, x4, x5, xl⟩ := cells6 Hout.out.1
        obtain ⟨y0, y1, y2, y3, y4, y5, yl⟩ := cells6 Hout.out.2.1
        have fy := Hout.out.2.1.frozen
        go_wp2
        rw [lay6_eq]
        exact bodyPost_ret (ret_pr Tryz.results16 rfl Hout.out.2.2.1 rfl) rfl Hout.out.2.2.2
end Go.Proofs.YtlakeanldbdedaaGreat
