/- Parts of this proof, one behind the other: SmB, SmC. -/
import Derived.Test.YtlakeanldbdedaaGreatPr47
import Derived.Deep.DeepCutAuto
namespace Go.Proofs.YtlakeanldbdedaaGreat
open Go.RowKit Go.Afx

theorem blk8 {w : World} {g : Nat} {T : TypeId} {v0 v1 v2 v3 v4 v5 v6 v7 : Value} (h : IsBlk w g T #[v0, v1, v2, v3, v4, v5, v6, v7]) : w.cell? ⟨g, 0, none⟩ = some v0 ∧ w.cell? ⟨g, 1, none⟩ = some v1 ∧ w.cell? ⟨g, 2, none⟩ = some v2 ∧ w.cell? ⟨g, 3, none⟩ = some v3 ∧ w.cell? ⟨g, 4, none⟩ = some v4 ∧ w.cell? ⟨g, 5, none⟩ = some v5 ∧ w.cell? ⟨g, 6, none⟩ = some v6 ∧ w.cell? ⟨g, 7, none⟩ = some v7 ∧ g < w.heap.size := by
  have h0 := h.cell 0; have h1 := h.cell 1; have h2 := h.cell 2; have h3 := h.cell 3; have h4 := h.cell 4; have h5 := h.cell 5; have h6 := h.cell 6; have h7 := h.cell 7
  simp at h0 h1 h2 h3 h4 h5 h6 h7
  exact ⟨h0, h1, h2, h3, h4, h5, h6, h7, h.lt⟩
/-- two statements are laid, in either order -/
def TwoLaid (wr : World) (r1 r2 : Array Value) (p q : Value) (wc : World) : Prop := ∃ g1 g2, p = .pointer (some ⟨g1, 0, none⟩) ∧ q = .pointer (some ⟨g2, 0, none⟩) ∧ IsBlk wc g1 58 r1 ∧ IsBlk wc g2 58 r2 ∧ Below wr.heap.size wr wc
theorem laid_two (wr : World) (r1 r2 : Array Value) : IsBlk (((wr.alloc (.cells r1 58)).alloc (.cells r2 58)).drew) wr.heap.size 58 r1 ∧ IsBlk (((wr.alloc (.cells r1 58)).alloc (.cells r2 58)).drew) (wr.heap.size + 1) 58 r2 ∧ Below wr.heap.size wr (((wr.alloc (.cells r1 58)).alloc (.cells r2 58)).drew) := by
  refine ⟨(IsBlk.laid _ _ _).alloc _, ?_, (((Below.refl _ _).alloc (Nat.le_refl _) _).alloc (by simp) _).drew⟩
  have h : IsBlk ((wr.alloc (.cells r1 58)).alloc (.cells r2 58)) (wr.heap.size + 1) 58 r2 := by
    have h := IsBlk.laid (wr.alloc (.cells r1 58)) 58 r2
    simpa using h
  exact h
set_option maxRecDepth 100000 in
set_option maxHeartbeats 4000000 in
theorem oneB_step (F G : Nat → Prop) (d : Nat) (ih : ∀ d', d = d' + 1 → ∀ (A A' : Option Addr) (n c c' : Nat) (xs : List St) (w : World), StsAt F d' w A n c xs → StsAt G d' w A' n c' xs → Calls Tryz.prog 61 #[.slice A n c, .slice A' n c'] w (TrueB w))
    (A A' : Option Addr) (n c c' : Nat) (xs : List St) (w : World) (h1 : StsAt F d w A n c xs) (h2 : StsAt G d w A' n c' xs) : Calls Tryz.prog 61 #[.slice A n c, .slice A' n c'] w (TrueB w) := by
  have hn := LsAt.n_le h1
  have Hl := Lib.hid (And.intro h1 h2)
  have Hih := Lib.hid ih
  clear h1 h2 ih
  go_enter Tryz.func61, Tryz.ntmps61
  go_wp2
  go_loopw [5] (fun i wr => ∃ k : Nat, k ≤ n ∧ i = .int .i64 k ∧ Below w.heap.size w wr) (fun i _ => n - (intOf i).toNat)
  case atStart => exact ⟨0, Nat.zero_le _, rfl, Below.refl _ _⟩
  case round =>
    obtain ⟨k, hk, rfl, hb⟩ := hrel
    by_cases hlt : k < n
    · have hl1 := StsAt.below Hl.out.1 hb
      have hl2 := StsAt.below Hl.out.2 hb
      cases d with
      | zero =>
        obtain ⟨b, o, r, x, _, _, _, _, _, hp, _⟩ := LsAt.get hl1 hlt
        exact hp.elim
      | succ d =>
        obtain ⟨b, o, r, x, rfl, hbl, _, hx, _, hp, hcl⟩ := LsAt.get hl1 hlt
        obtain ⟨b', o', r', x', rfl, hbl', _, hx', _, hp', hcl'⟩ := LsAt.get hl2 hlt
        obtain rfl : x = x' := Option.some.inj (hx.symm.trans hx')
        obtain ⟨_, _, _, _, Ac, nc, cc, Ae, ne, ce, Ab, nb, cb, Al, nl, cl, rfl, hc, he, hbo, hel⟩ := hp.open_
        obtain ⟨_, _, _, _, Ac', nc', cc', Ae', ne', ce', Ab', nb', cb', Al', nl', cl', rfl, hc', he', hbo', hel'⟩ := hp'.open_
        have z0 : wr.cell? ⟨b, o + k * 8, none⟩ = some (.int .i64 x.op) := by simpa using hcl 0 _ rfl
        have z1 := hcl 1 _ rfl
        have z2 := hcl 2 _ rfl
        have z3 := hcl 3 _ rfl
        have z4 := hcl 4 _ rfl
        have z5 := hcl 5 _ rfl
        have z6 := hcl 6 _ rfl
        have z7 := hcl 7 _ rfl
        have v0 : wr.cell? ⟨b', o' + k * 8, none⟩ = some (.int .i64 x.op) := by simpa using hcl' 0 _ rfl
        have v1 := hcl' 1 _ rfl
        have v2 := hcl' 2 _ rfl
        have v3 := hcl' 3 _ rfl
        have v4 := hcl' 4 _ rfl
        have v5 := hcl' 5 _ rfl
        have v6 := hcl' 6 _ rfl
        have v7 := hcl' 7 _ rfl
        obtain rfl : nc = nc' := by rw [← LsAt.len hc, ← LsAt.len hc']
        obtain rfl : ne = ne' := by rw [← LsAt.len he, ← LsAt.len he']
        obtain rfl : nb = nb' := by rw [← LsAt.len hbo, ← LsAt.len hbo']
        obtain rfl : nl = nl' := by rw [← LsAt.len hel, ← LsAt.len hel']
        have Hn := Lib.hid (And.intro (LsAt.n_le hc) (LsAt.n_le he))
        have Hc := Lib.hid (And.intro hc hc')
        have He := Lib.hid (And.intro he he')
        have Hbo := Lib.hid (And.intro hbo hbo')
        have Hel := Lib.hid (And.intro hel hel')
        have Hb := Lib.hid hb
        clear hc hc' he he' hbo hbo' hel hel' hp hp' hcl hcl' hx hx' hl1 hl2 hb
        have ha : TwoLaid wr #[.int .i64 x.op, .string x.name, .string x.src, .int .i64 x.n, .slice Ac nc cc, .slice Ae ne ce, .slice Ab nb cb, .slice Al nl cl] #[.int .i64 x.op, .string x.name, .string x.src, .int .i64 x.n, .slice Ac' nc cc', .slice Ae' ne ce', .slice Ab' nb cb', .slice Al' nl cl'] (.pointer (some ⟨wr.heap.size, 0, none⟩)) (.pointer (some ⟨wr.heap.size + 1, 0, none⟩)) (((wr.alloc (.cells #[.int .i64 x.op, .string x.name, .string x.src, .int .i64 x.n, .slice Ac nc cc, .slice Ae ne ce, .slice Ab nb cb, .slice Al nl cl] 58)).alloc (.cells #[.int .i64 x.op, .string x.name, .string x.src, .int .i64 x.n, .slice Ac' nc cc', .slice Ae' ne ce', .slice Ab' nb cb', .slice Al' nl cl'] 58)).drew) := ⟨_, _, rfl, rfl, laid_two _ _ _⟩
        have hb : TwoLaid wr #[.int .i64 x.op, .string x.name, .string x.src, .int .i64 x.n, .slice Ac nc cc, .slice Ae ne ce, .slice Ab nb cb, .slice Al nl cl] #[.int .i64 x.op, .string x.name, .string x.src, .int .i64 x.n, .slice Ac' nc cc', .slice Ae' ne ce', .slice Ab' nb cb', .slice Al' nl cl'] (.pointer (some ⟨wr.heap.size + 1, 0, none⟩)) (.pointer (some ⟨wr.heap.size, 0, none⟩)) (((wr.alloc (.cells #[.int .i64 x.op, .string x.name, .string x.src, .int .i64 x.n, .slice Ac' nc cc', .slice Ae' ne ce', .slice Ab' nb cb', .slice Al' nl cl'] 58)).alloc (.cells #[.int .i64 x.op, .string x.name, .string x.src, .int .i64 x.n, .slice Ac nc cc, .slice Ae ne ce, .slice Ab nb cb, .slice Al nl cl] 58)).drew) := ⟨_, _, rfl, rfl, (laid_two _ _ _).2.1, (laid_two _ _ _).1, (laid_two _ _ _).2.2⟩
        have Ha := Lib.hid ha
        have Hbb := Lib.hid hb
        clear ha hb
        go_upto_region 6 with (fail)
        go_cut [6, 7] (fun p q wc => TwoLaid wr #[.int .i64 x.op, .string x.name, .string x.src, .int .i64 x.n, .slice Ac nc cc, .slice Ae ne ce, .slice Ab nb cb, .slice Al nl cl] #[.int .i64 x.op, .string x.name, .string x.src, .int .i64 x.n, .slice Ac' nc cc', .slice Ae' ne ce', .slice Ab' nb cb', .slice Al' nl cl'] p q wc)
        case first =>
          go_region_with (fail)
          all_goals
            go_wp2
            go_meet
            first
              | exact Ha.out
              | exact Hbb.out
        case rest =>
          obtain ⟨g1, g2, rfl, rfl, hk1, hk2, hb2⟩ := hcut
          clear z0 z1 z2 z3 z4 z5 z6 z7 v0 v1 v2 v3 v4 v5 v6 v7
          have hih := Hih.out d rfl
          have Hih2 := Lib.hid hih
          have Hk := Lib.hid (And.intro hk1 hk2)
          have Hb2 := Lib.hid hb2
          obtain ⟨x0, x1, x2, x3, x4, x5, x6, x7, xl⟩ := blk8 hk1
          obtain ⟨y0, y1, y2, y3, y4, y5, y6, y7, yl⟩ := blk8 hk2
          have h1 := hih Ab Ab' nb cb cb' x.body wc (StsAt.below Hbo.out.1 hb2) (StsAt.below Hbo.out.2 hb2)
          have H1 := Lib.hid h1
          clear hih hk1 hk2 hb2 h1 hbl hbl'
          go_wp2_with (fail)
          refine H1.out.mono ?_
          rintro y w3 ⟨rfl, hb3⟩
          have hb23 := Hb2.out.trans (hb3.mono Hb2.out.size)
          have hk1 := Hk.out.1.as_was (hb3.block _ Hk.out.1.lt)
          have hk2 := Hk.out.2.as_was (hb3.block _ Hk.out.2.lt)
          clear x0 x1 x2 x3 x4 x5 x6 x7 xl y0 y1 y2 y3 y4 y5 y6 y7 yl
          obtain ⟨x0, x1, x2, x3, x4, x5, x6, x7, xl⟩ := blk8 hk1
          obtain ⟨y0, y1, y2, y3, y4, y5, y6, y7, yl⟩ := blk8 hk2
          have h1 := Hih2.out Al Al' nl cl cl' x.els w3 (StsAt.below Hel.out.1 hb23) (StsAt.below Hel.out.2 hb23)
          have H1 := Lib.hid h1
          have Hk3 := Lib.hid (And.intro hk1 (And.intro hk2 hb23))
          clear hk1 hk2 hb23 hb3 h1
          go_wp2_with (fail)
          refine H1.out.mono ?_
          rintro y w4 ⟨rfl, hb4⟩
          have hb24 := Hk3.out.2.2.trans (hb4.mono Hk3.out.2.2.size)
          have hk1 := Hk3.out.1.as_was (hb4.block _ Hk3.out.1.lt)
          have hk2 := Hk3.out.2.1.as_was (hb4.block _ Hk3.out.2.1.lt)
          have Hk4 := Lib.hid (And.intro hk1 (And.intro hk2 hb24))
          clear hk1 hk2 hb24 hb4 x0 x1 x2 x3 x4 x5 x6 x7 xl y0 y1 y2 y3 y4 y5 y6 y7 yl
          go_wp2
          go_loopw [8] (fun i wq => ∃ j : Nat, j ≤ nc ∧ i = .int .i64 j ∧ Below w4.heap.size w4 wq) (fun i _ => nc - (intOf i).toNat)
          case atStart => exact ⟨0, Nat.zero_le _, rfl, Below.refl _ _⟩
          case round =>
            rename World => wq
            obtain ⟨j, hj, rfl, hq⟩ := hrel
            have hk1 := Hk4.out.1.as_was (hq.block _ Hk4.out.1.lt)
            have hk2 := Hk4.out.2.1.as_was (hq.block _ Hk4.out.2.1.lt)
            obtain ⟨x0, x1, x2, x3, x4, x5, x6, x7, xl⟩ := blk8 hk1
            obtain ⟨y0, y1, y2, y3, y4, y5, y6, y7, yl⟩ := blk8 hk2
            have hnn := Hn.out.1
            have hb5 := Hk4.out.2.2.trans (hq.mono Hk4.out.2.2.size)
            by_cases hjl : j < nc
            · obtain ⟨b5, o5, r5, u, rfl, hbl5, _, hu, _, ⟨rfl, _⟩, hcu⟩ := LsAt.get (LsAt.below Hc.out.1 hb5) hjl
              obtain ⟨b6, o6, r6, u', rfl, hbl6, _, hu', _, ⟨rfl, _⟩, hcu'⟩ := LsAt.get (LsAt.below Hc.out.2 hb5) hjl
              obtain rfl : u = u' := Option.some.inj (hu.symm.trans hu')
              have s0 : wq.cell? ⟨b5, o5 + j, none⟩ = some (.string u) := by simpa using hcu 0 _ rfl
              have s1 : wq.cell? ⟨b6, o6 + j, none⟩ = some (.string u) := by simpa using hcu' 0 _ rfl
              have Hq := Lib.hid ((hq.trans ((Below.refl wq.heap.size wq).drew.mono hq.size)))
              clear hk1 hk2 hb5 hcu hcu' hu hu' hq
              go_wp2
              go_region
              all_goals go_wp2
              all_goals
                go_roundw
                case rel => exact ⟨j + 1, by omega, by go_num, Hq.out⟩
                case measure => simp [intOf]; omega
            · have Hk5 := Lib.hid (And.intro hk1 (And.intro hk2 hb5))
              clear hk1 hk2 hb5 hq hnn x0 x1 x2 x3 x4 x5 x6 x7 xl y0 y1 y2 y3 y4 y5 y6 y7 yl
              obtain ⟨x0, x1, x2, x3, x4, x5, x6, x7, xl⟩ := blk8 Hk5.out.1
              obtain ⟨y0, y1, y2, y3, y4, y5, y6, y7, yl⟩ := blk8 Hk5.out.2.1
              have hnn := Hn.out.2
              go_wp2
              clear x0 x1 x2 x3 x4 x5 x6 x7 xl y0 y1 y2 y3 y4 y5 y6 y7 yl
              go_loopw [9] (fun i wp => ∃ j : Nat, j ≤ ne ∧ i = .int .i64 j ∧ Below wq.heap.size wq wp) (fun i _ => ne - (intOf i).toNat)
              case atStart => exact ⟨0, Nat.zero_le _, rfl, Below.refl _ _⟩
              case round =>
                rename World => wp
                obtain ⟨j, hj, rfl, hq⟩ := hrel
                have hk1 := Hk5.out.1.as_was (hq.block _ Hk5.out.1.lt)
                have hk2 := Hk5.out.2.1.as_was (hq.block _ Hk5.out.2.1.lt)
                obtain ⟨x0, x1, x2, x3, x4, x5, x6, x7, xl⟩ := blk8 hk1
                obtain ⟨y0, y1, y2, y3, y4, y5, y6, y7, yl⟩ := blk8 hk2
                have hb6 := Hk5.out.2.2.trans (hq.mono Hk5.out.2.2.size)
                by_cases hjl : j < ne
                · have he1 := ExsAt.below He.out.1 hb6
                  have he2 := ExsAt.below He.out.2 hb6
                  cases d with
                  | zero =>
                    obtain ⟨b7, o7, r7, x7, _, _, _, _, _, hp, _⟩ := LsAt.get he1 hjl
                    exact hp.elim
                  | succ d =>
                    obtain ⟨b7, o7, u, A2, m2, c2, rfl, hbl7, hu, z0, z1, z2, z3, z4, z5, hxx, _⟩ := he1.get hjl
                    obtain ⟨b8, o8, u', A3, m3, c3, rfl, hbl8, hu', v0, v1, v2, v3, v4, v5, hyy, _⟩ := he2.get hjl
                    obtain rfl : u = u' := Option.some.inj (hu.symm.trans hu')
                    have hce := oneE_any F G (d + 1) u _ _ wp.drew (ExAt.below hxx (Below.refl _ _).drew) (ExAt.below hyy (Below.refl _ _).drew)
                    have Hce := Lib.hid hce
                    have Hq := Lib.hid hq
                    clear hce he1 he2 hxx hyy hu hu' hb6 hk1 hk2 hq
                    go_upto_region 17 with (fail)
                    go_still_tail 10, (by kernel_rfl)
                    change wpList _ _ _ _ _ wp.drew
                    go_wp2_with (fail)
                    refine Hce.out.mono ?_
                    rintro y w7 ⟨rfl, hb7⟩
                    have Hb7 := Lib.hid (Hq.out.trans (((Below.refl wp.heap.size wp).drew.trans hb7).mono Hq.out.size))
                    clear hb7
                    go_wp2
                    go_roundw
                    case rel => exact ⟨j + 1, by omega, by go_num, Hb7.out⟩
                    case measure => simp [intOf]; omega
                · have Hb6 := Lib.hid (Hb.out.trans (hb6.mono Hb.out.size))
                  clear hk1 hk2 hb6 hq
                  go_wp2
                  go_roundw
                  case rel => exact ⟨k + 1, by omega, by go_num, Hb6.out⟩
                  case measure => simp [intOf]; omega
    · have Hb := Lib.hid hb
      clear hb
      go_wp2
      go_ret
      exact ⟨rfl, Hb.out⟩
theorem oneB_any (F G : Nat → Prop) : ∀ (d : Nat) (A A' : Option Addr) (n c c' : Nat) (xs : List St) (w : World), StsAt F d w A n c xs → StsAt G d w A' n c' xs → Calls Tryz.prog 61 #[.slice A n c, .slice A' n c'] w (TrueB w) := by
  intro d
  induction d with
  | zero => exact fun A A' n c c' xs w h1 h2 => oneB_step F G 0 (fun d' h => by omega) A A' n c c' xs w h1 h2
  | succ d ih =>
    intro A A' n c c' xs w h1 h2
    refine oneB_step F G (d + 1) (fun d' h => ?_) A A' n c c' xs w h1 h2
    have e : d = d' := Nat.succ.inj h
    subst e
    exact ih
end Go.Proofs.YtlakeanldbdedaaGreat

namespace Go.Proofs.YtlakeanldbdedaaGreat
open Go.RowKit Go.Afx

set_option maxRecDepth 100000 in
set_option maxHeartbeats 4000000 in
theorem onePr_any (F G : Nat → Prop) (d : Nat) (p : Pr) (r1 r2 : List Value) (w : World) (h1 : PrAt F d w r1 p) (h2 : PrAt G d w r2 p) : Calls Tryz.prog 23 #[.agg r1.toArray, .agg r2.toArray] w (TrueB w) := by
  obtain ⟨_, _, _, _, A, n, c, Ab, nb, cb, rfl, hp, hbo⟩ := h1
  obtain ⟨_, _, _, _, A', n', c', Ab', nb', cb', rfl, hp', hbo'⟩ := h2
  obtain rfl : n = n' := by rw [← LsAt.len hp, ← LsAt.len hp']
  obtain rfl : nb = nb' := by rw [← LsAt.len hbo, ← LsAt.len hbo']
  have hn := LsAt.n_le hp
  obtain ⟨w1, Hw1⟩ : ∃ w1, Hid (w1 = (w.alloc (.cells #[.string p.name, .string p.src, .string p.part, .int .i64 p.fuel, .slice A n c, .slice Ab nb cb] 25)).alloc (.cells #[.string p.name, .string p.src, .string p.part, .int .i64 p.fuel, .slice A' n c', .slice Ab' nb cb'] 25)) := ⟨_, rfl⟩
  have hb1 : Below w.heap.size w w1 := by rw [Hw1.out]; exact ((Below.refl _ _).alloc (Nat.le_refl _) _).alloc (by simp) _
  have hkx : IsBlk w1 w.heap.size 25 #[.string p.name, .string p.src, .string p.part, .int .i64 p.fuel, .slice A n c, .slice Ab nb cb] := by rw [Hw1.out]; exact (IsBlk.laid _ _ _).alloc _
  have hky : IsBlk w1 (w.heap.size + 1) 25 #[.string p.name, .string p.src, .string p.part, .int .i64 p.fuel, .slice A' n c', .slice Ab' nb cb'] := by
    rw [Hw1.out]
    have h := IsBlk.laid (w.alloc (.cells #[.string p.name, .string p.src, .string p.part, .int .i64 p.fuel, .slice A n c, .slice Ab nb cb] 25)) 25 #[.string p.name, .string p.src, .string p.part, .int .i64 p.fuel, .slice A' n c', .slice Ab' nb cb']
    simpa using h
  obtain ⟨x0, x1, x2, x3, x4, x5, xl⟩ := blk6 hkx
  obtain ⟨y0, y1, y2, y3, y4, y5, yl⟩ := blk6 hky
  have Hb1 := Lib.hid hb1
  have Hkx := Lib.hid hkx
  have Hky := Lib.hid hky
  have Hl := Lib.hid (And.intro hp hp')
  have Hbo := Lib.hid (And.intro hbo hbo')
  clear hb1 hkx hky hp hp' hbo hbo'
  go_enter Tryz.func23, Tryz.ntmps23
  go_upto_region 1 with (fail)
  rw [← Hw1.out]
  go_wp2
  clear x0 x1 x2 x3 x4 x5 xl y0 y1 y2 y3 y4 y5 yl
  go_loopw [5] (fun i wr => ∃ k : Nat, k ≤ n ∧ i = .int .i64 k ∧ Below w1.heap.size w1 wr) (fun i _ => n - (intOf i).toNat)
  case atStart => exact ⟨0, Nat.zero_le _, rfl, Below.refl _ _⟩
  case round =>
    obtain ⟨k, hk, rfl, hb⟩ := hrel
    have hkx := Hkx.out.as_was (hb.block _ Hkx.out.lt)
    have hky := Hky.out.as_was (hb.block _ Hky.out.lt)
    obtain ⟨x0, x1, x2, x3, x4, x5, xl⟩ := blk6 hkx
    obtain ⟨y0, y1, y2, y3, y4, y5, yl⟩ := blk6 hky
    have hbb := Hb1.out.trans (hb.mono Hb1.out.size)
    by_cases hlt : k < n
    · obtain ⟨b5, o5, r5, u, rfl, hbl5, _, hu, _, ⟨rfl, _⟩, hcu⟩ := LsAt.get (LsAt.below Hl.out.1 hbb) hlt
      obtain ⟨b6, o6, r6, u', rfl, hbl6, _, hu', _, ⟨rfl, _⟩, hcu'⟩ := LsAt.get (LsAt.below Hl.out.2 hbb) hlt
      obtain rfl : u = u' := Option.some.inj (hu.symm.trans hu')
      have s0 : wr.cell? ⟨b5, o5 + k * 2, none⟩ = some (.string u.name) := by simpa using hcu 0 _ rfl
      have s1 := hcu 1 _ rfl
      have s2 : wr.cell? ⟨b6, o6 + k * 2, none⟩ = some (.string u.name) := by simpa using hcu' 0 _ rfl
      have s3 := hcu' 1 _ rfl
      have Hq := Lib.hid ((hb.trans ((Below.refl wr.heap.size wr).drew.mono hb.size)))
      clear hkx hky hbb hcu hcu' hu hu' hb
      go_wp2
      go_region
      all_goals go_wp2
      all_goals
        go_roundw
        case rel => exact ⟨k + 1, by omega, by go_num, Hq.out⟩
        case measure => simp [intOf]; omega
    · have hc := oneB_any F G d Ab Ab' nb cb cb' p.body wr (StsAt.below Hbo.out.1 hbb) (StsAt.below Hbo.out.2 hbb)
      have Hc := Lib.hid hc
      have Hbb := Lib.hid hbb
      clear hkx hky hbb hb hc
      go_wp2_with (fail)
      refine Hc.out.mono ?_
      rintro y w4 ⟨rfl, hb4⟩
      have Hb4 := Lib.hid (Hbb.out.trans (hb4.mono Hbb.out.size))
      clear hb4
      go_wp2
      go_ret
      exact ⟨rfl, Hb4.out⟩
end Go.Proofs.YtlakeanldbdedaaGreat
