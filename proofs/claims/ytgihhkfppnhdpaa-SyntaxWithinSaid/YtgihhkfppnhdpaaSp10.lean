/- Parts of this proof, one behind the other: SynV, SynX, SynW, SynY. -/
import Derived.Test.YtgihhkfppnhdpaaSp8
import Derived.Test.YtgihhkfppnhdpaaSp9
import Derived.Test.YtgihhkfppnhdpaaShelfZ
import Derived.Maps.OwnSet
namespace Go.Proofs.Ytgihhkfppnhdpaa
open Go.RowKit Go.Afx Go.Maps Go.WideMaps

set_option maxRecDepth 100000 in
set_option maxHeartbeats 4000000 in
theorem uses_4 (d : Nat) (ih : UsesS d) (b1 b2 b3 : Nat) (n : Int) (name src : ByteArray) (Ac Ae Ab Al : Option Addr) (nc cc ne ce nb cb nl cl : Nat) (exprs : List Ex) (body els : List St) (w : World) (L1 L2 L3 : List ByteArray) 
    (hsr : okS src) (hel : ExsAt (NB b1 b2 b3) d w Ae ne ce exprs) (hbl : StsAt (NB b1 b2 b3) d w Ab nb cb body) (hll : StsAt (NB b1 b2 b3) d w Al nl cl els) (hu : Sets w b1 b2 b3 L1 L2 L3)
    (g1 : L1.length + (1 + (exprs.map (cntE d)).sum + (body.map (cntS d)).sum + (els.map (cntS d)).sum) ≤ 1000000) (g2 : L2.length + (1 + (exprs.map (cntE d)).sum + (body.map (cntS d)).sum + (els.map (cntS d)).sum) ≤ 1000000) (g3 : L3.length + (1 + (exprs.map (cntE d)).sum + (body.map (cntS d)).sum + (els.map (cntS d)).sum) ≤ 1000000) :
    Calls Try.prog 53 #[.agg #[.map (some b1), .map (some b2), .map (some b3)], .agg #[.int .i64 4, .string name, .string src, .int .i64 n, .slice Ac nc cc, .slice Ae ne ce, .slice Ab nb cb, .slice Al nl cl]] w fun r w' => r = .returned (.tuple #[]) ∧
      Sets w' b1 b2 b3 (L1 ++ ([src] ++ exprs.flatMap (srcsE d) ++ (body ++ els).flatMap (readsS d))) (L2 ++ ([src] ++ (body ++ els).flatMap (writesS d))) (L3 ++ (([] : List ByteArray) ++ (body ++ els).flatMap (emitsS d))) ∧ But (S3 b1 b2 b3) w w' := by
  have hnel := LsAt.n_le hel
  have cb' := sts_cnt hbl
  have cl' := sts_cnt hll
  have Hlen := Lib.hid (LsAt.len hel)
  have HlenB := Lib.hid (LsAt.len hbl)
  have HlenL := Lib.hid (LsAt.len hll)
  have h1lt := hu.one.lt
  have h2lt := hu.two.lt
  have h3lt := hu.three.lt
  obtain ⟨w2, Hw2⟩ : ∃ w2, Hid (w2 = (w.alloc (.cells #[.map (some b1), .map (some b2), .map (some b3)] 73)).alloc (.cells #[.int .i64 4, .string name, .string src, .int .i64 n, .slice Ac nc cc, .slice Ae ne ce, .slice Ab nb cb, .slice Al nl cl] 52)) := ⟨_, rfl⟩
  have hb2 : Below w.heap.size w w2 := by rw [Hw2.out]; exact ((Below.refl _ _).alloc (Nat.le_refl _) _).alloc (by simp) _
  have hu2 : IsBlk w2 w.heap.size 73 #[.map (some b1), .map (some b2), .map (some b3)] := by rw [Hw2.out]; exact (IsBlk.laid _ _ _).alloc _
  have he2 : IsBlk w2 (w.heap.size + 1) 52 #[.int .i64 4, .string name, .string src, .int .i64 n, .slice Ac nc cc, .slice Ae ne ce, .slice Ab nb cb, .slice Al nl cl] := by rw [Hw2.out]; exact laid_at (by simp) _ _
  have hU2 := hu.below hb2
  have hz2 := hb2.size
  have Hx2 := Lib.hid (fun W (hW : But (S3 b1 b2 b3) w2 W) => And.intro (usBox (hu2.as_was (hW.block _ hu2.lt (fun h => by rcases h with h | h | h <;> omega)))) (stBox0 (he2.as_was (hW.block _ he2.lt (fun h => by rcases h with h | h | h <;> omega)))))
  have Hel := Lib.hid (fun W (hW : But (S3 b1 b2 b3) w2 W) => ExsAt.kept hel (nb_kept ((But.of_below (S := S3 b1 b2 b3) hb2).trans' hW)))
  have Hbl := Lib.hid (fun W (hW : But (S3 b1 b2 b3) w2 W) => StsAt.kept hbl (nb_kept ((But.of_below (S := S3 b1 b2 b3) hb2).trans' hW)))
  have Hll := Lib.hid (fun W (hW : But (S3 b1 b2 b3) w2 W) => StsAt.kept hll (nb_kept ((But.of_below (S := S3 b1 b2 b3) hb2).trans' hW)))
  obtain ⟨⟨y0, y1, y2, yl⟩, x0, x2, x5, x6, x7, xl⟩ := Hx2.out w2 (But.refl _ _)
  clear hu2 he2 hel hbl hll
  have hb02 : But (S3 b1 b2 b3) w w2 := But.of_below hb2

  go_enter Try.func53, Try.ntmps53
  go_upto_region 1 with (fail)
  rw [← Hw2.out]
  have hU2d : Sets w2.drew b1 b2 b3 L1 L2 L3 := hU2.below (Below.refl _ _).drew
  obtain ⟨w3, hr3, hM3, hg3⟩ := World.ownsMap.update (t := 71) (e := 4) (val := .bool true) hU2d.one strKeyed Try.underlying71 (by unfold maxLen; omega) (keyS hsr) (plainElem_bool Try.underlying4 true)
  have hU3 := hU2d.first (UseAt.put hM3) (grown_but hg3)
  have hB3 : But (S3 b1 b2 b3) w2 w3 := ((But.refl _ w2).drew).trans' (but_s1 (grown_but hg3))
  obtain ⟨w4, hr4, hM4, hg4⟩ := World.ownsMap.update (t := 71) (e := 4) (val := .bool true) hU3.two strKeyed Try.underlying71 (by unfold maxLen; omega) (keyS hsr) (plainElem_bool Try.underlying4 true)
  have hB : But (S3 b1 b2 b3) w2 w4 := hB3.trans' (but_s2 (grown_but hg4))
  have hU : Sets w4 b1 b2 b3 (L1 ++ [src]) (L2 ++ [src]) (L3 ++ ([] : List ByteArray)) := by simpa using hU3.second (UseAt.put hM4) (grown_but hg4)
  obtain ⟨⟨a0, a1, a2, al⟩, c0, c2, c5, c6, c7, cl⟩ := Hx2.out _ hB3
  obtain ⟨⟨p0, p1, p2, pl⟩, q0, q2, q5, q6, q7, ql⟩ := Hx2.out _ hB
  go_upto_region 4 with (fail)
  go_region
  clear hr3 hr4 hM3 hM4 hU3 hU2d
  go_wp2_with (fail)
  go_loopw [42] (fun i wr => ∃ k : Nat, k ≤ ne ∧ i = .int .i64 k ∧ Sets wr b1 b2 b3 (L1 ++ [src] ++ (exprs.take k).flatMap (srcsE d)) (L2 ++ [src]) (L3 ++ ([] : List ByteArray)) ∧ But (S3 b1 b2 b3) w2 wr) (fun i _ => ne - (intOf i).toNat)
  case atStart => exact ⟨0, Nat.zero_le _, rfl, by simpa using hU, hB⟩
  case round =>
    obtain ⟨k, hk, rfl, hU4, hB4⟩ := hrel
    obtain ⟨⟨z0, z1, z2, zl⟩, v0, v2, v5, v6, v7, vl⟩ := Hx2.out wr hB4
    by_cases hlt : k < ne
    · cases d with
      | zero =>
        obtain ⟨b, o, r, e, hA, hbl, _, he, hl, hp, hc⟩ := LsAt.get (Hel.out wr hB4) hlt
        exact hp.elim
      | succ d =>
        obtain ⟨b, o, x, A2, m2, c2, rfl, hbl, hx, hc0, hc1, hc2, hc3, hc4, hc5, hp, _⟩ := ExsAt.get (Hel.out wr hB4) hlt
        have Hx := Lib.hid hx
        clear hx
        have hbn : Below wr.heap.size wr (wr.alloc (.cells #[.int .i64 x.op, .int .i64 x.n, .string x.s, .string x.name, .string x.src, .slice A2 m2 c2] 50)) := (Below.refl _ _).alloc (Nat.le_refl _) _
        have hU4n := hU4.below hbn
        have Hc := Lib.hid (usesE_any _ _ x _ _ b1 b2 b3 _ (hp.below hbn) hU4n.one (fun k hk => hk.1) (by have := flat_le (f := srcsE (d + 1)) Hx.out; have := flat_cnt (srcsE_le (d + 1)) exprs; simp only [List.length_append, List.length_cons, List.length_nil]; omega))
        go_wp2_with (go_at_call 66; refine Hc.out.mono ?_; rintro y w5 ⟨rfl, hU5, hB5⟩)
        go_roundw
        case rel => exact ⟨k + 1, by omega, by go_num, by rw [flat_take Hx.out, ← List.append_assoc]; exact hU4n.first hU5 hB5, (hB4.then_below hbn).trans' (but_s1 hB5)⟩
        case measure => simp [intOf]; omega
    · have hU6 : Sets wr b1 b2 b3 (L1 ++ [src] ++ exprs.flatMap (srcsE d)) (L2 ++ [src]) (L3 ++ ([] : List ByteArray)) := by rw [List.take_of_length_le (by rw [Hlen.out]; omega)] at hU4; exact hU4
      clear hU4
      obtain ⟨rB, hrB, h8B, h1B, hlB, hpB⟩ := ls_rows (Hbl.out wr hB4)
      obtain ⟨rL, hrL, h8L, h1L, hlL, hpL⟩ := ls_rows (Hll.out wr hB4)
      have hS4 : ∀ k, S3 b1 b2 b3 k → k < wr.heap.size := fun k h => by rcases h with rfl | rfl | rfl <;> first | exact hU6.one.lt | exact hU6.two.lt | exact hU6.three.lt
      have HpB := Lib.hid hpB
      have HpL := Lib.hid hpL
      have H8B := Lib.hid h8B
      have H8L := Lib.hid h8L
      have H1B := Lib.hid h1B
      have H1L := Lib.hid h1L
      have HlB := Lib.hid hlB
      have HlL := Lib.hid hlL
      have HS4 := Lib.hid hS4
      clear hpB hpL h8B h8L h1B h1L hlB hlL hS4
      have hcnt : nb + nl ≤ 1000000 := by omega
      have Hcell := Lib.hid (fun W (hW : Below wr.heap.size wr W) => (Hx2.out W (hB4.then_below hW)).2)
      have hm1 : nb + nl ≤ maxLen := by unfold maxLen; omega
      have hm2 : (nb + nl) * 144 ≤ 140737488355328 := by omega
      obtain ⟨N, HN⟩ : ∃ N, Hid (nb + nl = N) := ⟨_, rfl⟩
      go_upto_region 16 with (fail)
      go_cut [55, 56, 57] from 50 to 64 (Joined b1 b2 b3 d (body ++ els) N (fun W => Sets W b1 b2 b3 (L1 ++ [src] ++ exprs.flatMap (srcsE d)) (L2 ++ [src]) (L3 ++ ([] : List ByteArray)) ∧ But (S3 b1 b2 b3) w2 W))
      case first =>
        go_region_law (first
          | (refine step_app (base := wr.drew.heap.size) (xs := rB) (news := rL) rfl rfl tySt rfl hown5 rfl ((RowsAt.drew hrL).below hb5) H8L.out H1L.out hm1 hm2 hm3 ?_; intro A6 c6 w6 hown6 hbut6 hf6)
          | (go_simp; go_at_call 67; refine (cloneSt_any _ _ _ _ (by omega) _ (RowsAt.drew hrB) H8B.out H1B.out).mono ?_; rintro x w5 ⟨A5, c5, rfl, hown5, hb5⟩; have hb45 : Below wr.heap.size wr w5 := ((Below.refl _ _).drew).trans hb5; obtain ⟨u0, u2, u5, u6, u7, ul⟩ := Hcell.out w5 hb45; have hm3 := hb5.size))
        all_goals
          go_wp2
          go_meet
          have hb46 : Below wr.heap.size wr w6 := hb45.trans (hbut6.below' hb45.size (fun i hi => by
            cases A5 with
            | none => cases hi
            | some a5 =>
              have h := (hown5.lt a5.block rfl).1
              simp at hi
              subst hi
              exact h))
          exact ⟨A6, c6, by rw [← HN.out], by rw [← HN.out]; go_num, rfl, by rw [← HN.out]; exact joined_ls HS4.out hown6 H8B.out H8L.out hrB.len hrL.len HlB.out HlL.out HpB.out HpL.out (But.of_below hb46), hU6.below hb46, hB4.then_below hb46⟩
      case rest =>
        obtain ⟨A6, c6, rfl, rfl, rfl, hys, hU7, hB7⟩ := hcut
        obtain ⟨es, Hes⟩ : ∃ l, Hid (exprs.flatMap (srcsE d) = l) := ⟨_, rfl⟩
        obtain ⟨ys, Hys⟩ : ∃ l, Hid (body ++ els = l) := ⟨_, rfl⟩
        have hesl : es.length ≤ (exprs.map (cntE d)).sum := by rw [← Hes.out]; exact flat_cnt (srcsE_le d) exprs
        have hsum : (ys.map (cntS d)).sum = (body.map (cntS d)).sum + (els.map (cntS d)).sum := by rw [← Hys.out, List.map_append, List.sum_append]
        have Hyl : Hid (ys.length = N) := Lib.hid (by rw [← Hys.out, List.length_append, HlenB.out, HlenL.out, HN.out])
        have hNb : N ≤ 1000000 := by rw [← HN.out]; exact hcnt
        have Hsum := Lib.hid hsum
        rw [Hes.out] at hU7
        rw [Hys.out] at hys
        obtain ⟨sE, HsE⟩ : ∃ s, Hid ((exprs.map (cntE d)).sum = s) := ⟨_, rfl⟩
        obtain ⟨sY, HsY⟩ : ∃ s, Hid ((ys.map (cntS d)).sum = s) := ⟨_, rfl⟩
        have G1 : L1.length + (1 + sE + sY) ≤ 1000000 := by rw [← HsE.out, ← HsY.out]; omega
        have G2 : L2.length + (1 + sE + sY) ≤ 1000000 := by rw [← HsE.out, ← HsY.out]; omega
        have G3 : L3.length + (1 + sE + sY) ≤ 1000000 := by rw [← HsE.out, ← HsY.out]; omega
        rw [HsE.out] at hesl
        clear hsum g1 g2 g3 cb' cl' Hel Hbl Hll hrB hrL hB4 hU6 HS4 HpB HpL H8B H8L H1B H1L HlB HlL Hcell Hsum z0 z1 z2 zl v0 v2 v5 v6 v7 vl hk
        have Hys2 := Lib.hid hys
        clear hys
        go_wp2_with (fail)
        go_loopw [57] (fun i wq => ∃ k : Nat, k ≤ N ∧ i = .int .i64 k ∧ Sets wq b1 b2 b3 (L1 ++ [src] ++ es ++ (ys.take k).flatMap (readsS d)) (L2 ++ [src] ++ (ys.take k).flatMap (writesS d)) (L3 ++ ([] : List ByteArray) ++ (ys.take k).flatMap (emitsS d)) ∧ But (S3 b1 b2 b3) wc wq) (fun i _ => N - (intOf i).toNat)
        case atStart => exact ⟨0, Nat.zero_le _, rfl, by simpa using hU7, But.refl _ _⟩
        case round =>
          obtain ⟨j, hj, rfl, hUq, hBq⟩ := hrel
          obtain ⟨⟨z0, z1, z2, zl⟩, v0, v2, v5, v6, v7, vl⟩ := Hx2.out wr (hB7.trans' hBq)
          by_cases hlt2 : j < N
          · cases d with
            | zero =>
              obtain ⟨b, o, r, e, hA, hbl, _, he, hl, hp, hc⟩ := LsAt.get (Hys2.out.kept (nb_kept hBq)) hlt2
              exact hp.elim
            | succ d =>
              obtain ⟨b, o, x, Ac2, nc2, cc2, Ae2, ne2, ce2, Ab2, nb2, cb2, Al2, nl2, cl2, rfl, hbl, hx, hc0, hc1, hc2, hc3, hc4, hc5, hc6, hc7, hp, _⟩ := StsAt.get (Hys2.out.kept (nb_kept hBq)) hlt2
              have Hx := Lib.hid hx
              clear hx
              have hbn : Below wr.heap.size wr (wr.alloc (.cells #[.int .i64 x.op, .string x.name, .string x.src, .int .i64 x.n, .slice Ac2 nc2 cc2, .slice Ae2 ne2 ce2, .slice Ab2 nb2 cb2, .slice Al2 nl2 cl2] 52)) := (Below.refl _ _).alloc (Nat.le_refl _) _
              have hUn := hUq.below hbn
              have t0 := sum_take (f := cntS (d + 1)) Hx.out
              rw [HsY.out] at t0
              have t1 := flat_cnt (readsS_le (d + 1)) (ys.take j)
              have t2 := flat_cnt (writesS_le (d + 1)) (ys.take j)
              have t3 := flat_cnt (emitsS_le (d + 1)) (ys.take j)
              have Hc := Lib.hid (ih b1 b2 b3 x _ _ _ _ _ (hp.below hbn) hUn (by simp only [List.length_append, List.length_cons, List.length_nil]; omega) (by simp only [List.length_append, List.length_cons, List.length_nil]; omega) (by simp only [List.length_append, List.length_nil]; omega))
              clear t0 t1 t2 t3 hUn
              go_wp2_with (go_at_call 53; refine Hc.out.mono ?_; rintro y w8 ⟨rfl, hU8, hB8⟩)
              go_roundw
              case rel => exact ⟨j + 1, by omega, by go_num, by simp only [flat_take Hx.out, ← List.append_assoc]; exact hU8, (hBq.then_below hbn).trans' hB8⟩
              case measure => simp [intOf]; omega
          · go_wp2
            go_end0
            refine ⟨rfl, ?_, hb02.trans' (hB7.trans' hBq)⟩
            rw [List.take_of_length_le (by rw [Hyl.out]; omega)] at hUq
            rw [Hes.out, Hys.out]
            simp only [List.append_nil, List.append_assoc] at hUq ⊢
            exact hUq

set_option maxRecDepth 100000 in
set_option maxHeartbeats 4000000 in
theorem uses_5 (d : Nat) (ih : UsesS d) (b1 b2 b3 : Nat) (n : Int) (name src : ByteArray) (Ac Ae Ab Al : Option Addr) (nc cc ne ce nb cb nl cl : Nat) (exprs : List Ex) (body els : List St) (w : World) (L1 L2 L3 : List ByteArray) 
    (hsr : okS src) (hel : ExsAt (NB b1 b2 b3) d w Ae ne ce exprs) (hbl : StsAt (NB b1 b2 b3) d w Ab nb cb body) (hll : StsAt (NB b1 b2 b3) d w Al nl cl els) (hu : Sets w b1 b2 b3 L1 L2 L3)
    (g1 : L1.length + (1 + (exprs.map (cntE d)).sum + (body.map (cntS d)).sum + (els.map (cntS d)).sum) ≤ 1000000) (g2 : L2.length + (1 + (exprs.map (cntE d)).sum + (body.map (cntS d)).sum + (els.map (cntS d)).sum) ≤ 1000000) (g3 : L3.length + (1 + (exprs.map (cntE d)).sum + (body.map (cntS d)).sum + (els.map (cntS d)).sum) ≤ 1000000) :
    Calls Try.prog 53 #[.agg #[.map (some b1), .map (some b2), .map (some b3)], .agg #[.int .i64 5, .string name, .string src, .int .i64 n, .slice Ac nc cc, .slice Ae ne ce, .slice Ab nb cb, .slice Al nl cl]] w fun r w' => r = .returned (.tuple #[]) ∧
      Sets w' b1 b2 b3 (L1 ++ ([src] ++ exprs.flatMap (srcsE d) ++ (body ++ els).flatMap (readsS d))) (L2 ++ ([src] ++ (body ++ els).flatMap (writesS d))) (L3 ++ (([] : List ByteArray) ++ (body ++ els).flatMap (emitsS d))) ∧ But (S3 b1 b2 b3) w w' := by
  have hnel := LsAt.n_le hel
  have cb' := sts_cnt hbl
  have cl' := sts_cnt hll
  have Hlen := Lib.hid (LsAt.len hel)
  have HlenB := Lib.hid (LsAt.len hbl)
  have HlenL := Lib.hid (LsAt.len hll)
  have h1lt := hu.one.lt
  have h2lt := hu.two.lt
  have h3lt := hu.three.lt
  obtain ⟨w2, Hw2⟩ : ∃ w2, Hid (w2 = (w.alloc (.cells #[.map (some b1), .map (some b2), .map (some b3)] 73)).alloc (.cells #[.int .i64 5, .string name, .string src, .int .i64 n, .slice Ac nc cc, .slice Ae ne ce, .slice Ab nb cb, .slice Al nl cl] 52)) := ⟨_, rfl⟩
  have hb2 : Below w.heap.size w w2 := by rw [Hw2.out]; exact ((Below.refl _ _).alloc (Nat.le_refl _) _).alloc (by simp) _
  have hu2 : IsBlk w2 w.heap.size 73 #[.map (some b1), .map (some b2), .map (some b3)] := by rw [Hw2.out]; exact (IsBlk.laid _ _ _).alloc _
  have he2 : IsBlk w2 (w.heap.size + 1) 52 #[.int .i64 5, .string name, .string src, .int .i64 n, .slice Ac nc cc, .slice Ae ne ce, .slice Ab nb cb, .slice Al nl cl] := by rw [Hw2.out]; exact laid_at (by simp) _ _
  have hU2 := hu.below hb2
  have hz2 := hb2.size
  have Hx2 := Lib.hid (fun W (hW : But (S3 b1 b2 b3) w2 W) => And.intro (usBox (hu2.as_was (hW.block _ hu2.lt (fun h => by rcases h with h | h | h <;> omega)))) (stBox0 (he2.as_was (hW.block _ he2.lt (fun h => by rcases h with h | h | h <;> omega)))))
  have Hel := Lib.hid (fun W (hW : But (S3 b1 b2 b3) w2 W) => ExsAt.kept hel (nb_kept ((But.of_below (S := S3 b1 b2 b3) hb2).trans' hW)))
  have Hbl := Lib.hid (fun W (hW : But (S3 b1 b2 b3) w2 W) => StsAt.kept hbl (nb_kept ((But.of_below (S := S3 b1 b2 b3) hb2).trans' hW)))
  have Hll := Lib.hid (fun W (hW : But (S3 b1 b2 b3) w2 W) => StsAt.kept hll (nb_kept ((But.of_below (S := S3 b1 b2 b3) hb2).trans' hW)))
  obtain ⟨⟨y0, y1, y2, yl⟩, x0, x2, x5, x6, x7, xl⟩ := Hx2.out w2 (But.refl _ _)
  clear hu2 he2 hel hbl hll
  have hb02 : But (S3 b1 b2 b3) w w2 := But.of_below hb2

  go_enter Try.func53, Try.ntmps53
  go_upto_region 1 with (fail)
  rw [← Hw2.out]
  have hU2d : Sets w2.drew b1 b2 b3 L1 L2 L3 := hU2.below (Below.refl _ _).drew
  obtain ⟨w3, hr3, hM3, hg3⟩ := World.ownsMap.update (t := 71) (e := 4) (val := .bool true) hU2d.one strKeyed Try.underlying71 (by unfold maxLen; omega) (keyS hsr) (plainElem_bool Try.underlying4 true)
  have hU3 := hU2d.first (UseAt.put hM3) (grown_but hg3)
  have hB3 : But (S3 b1 b2 b3) w2 w3 := ((But.refl _ w2).drew).trans' (but_s1 (grown_but hg3))
  obtain ⟨w4, hr4, hM4, hg4⟩ := World.ownsMap.update (t := 71) (e := 4) (val := .bool true) hU3.two strKeyed Try.underlying71 (by unfold maxLen; omega) (keyS hsr) (plainElem_bool Try.underlying4 true)
  have hB : But (S3 b1 b2 b3) w2 w4 := hB3.trans' (but_s2 (grown_but hg4))
  have hU : Sets w4 b1 b2 b3 (L1 ++ [src]) (L2 ++ [src]) (L3 ++ ([] : List ByteArray)) := by simpa using hU3.second (UseAt.put hM4) (grown_but hg4)
  obtain ⟨⟨a0, a1, a2, al⟩, c0, c2, c5, c6, c7, cl⟩ := Hx2.out _ hB3
  obtain ⟨⟨p0, p1, p2, pl⟩, q0, q2, q5, q6, q7, ql⟩ := Hx2.out _ hB
  go_upto_region 4 with (fail)
  go_region
  clear hr3 hr4 hM3 hM4 hU3 hU2d
  go_wp2_with (fail)
  go_loopw [42] (fun i wr => ∃ k : Nat, k ≤ ne ∧ i = .int .i64 k ∧ Sets wr b1 b2 b3 (L1 ++ [src] ++ (exprs.take k).flatMap (srcsE d)) (L2 ++ [src]) (L3 ++ ([] : List ByteArray)) ∧ But (S3 b1 b2 b3) w2 wr) (fun i _ => ne - (intOf i).toNat)
  case atStart => exact ⟨0, Nat.zero_le _, rfl, by simpa using hU, hB⟩
  case round =>
    obtain ⟨k, hk, rfl, hU4, hB4⟩ := hrel
    obtain ⟨⟨z0, z1, z2, zl⟩, v0, v2, v5, v6, v7, vl⟩ := Hx2.out wr hB4
    by_cases hlt : k < ne
    · cases d with
      | zero =>
        obtain ⟨b, o, r, e, hA, hbl, _, he, hl, hp, hc⟩ := LsAt.get (Hel.out wr hB4) hlt
        exact hp.elim
      | succ d =>
        obtain ⟨b, o, x, A2, m2, c2, rfl, hbl, hx, hc0, hc1, hc2, hc3, hc4, hc5, hp, _⟩ := ExsAt.get (Hel.out wr hB4) hlt
        have Hx := Lib.hid hx
        clear hx
        have hbn : Below wr.heap.size wr (wr.alloc (.cells #[.int .i64 x.op, .int .i64 x.n, .string x.s, .string x.name, .string x.src, .slice A2 m2 c2] 50)) := (Below.refl _ _).alloc (Nat.le_refl _) _
        have hU4n := hU4.below hbn
        have Hc := Lib.hid (usesE_any _ _ x _ _ b1 b2 b3 _ (hp.below hbn) hU4n.one (fun k hk => hk.1) (by have := flat_le (f := srcsE (d + 1)) Hx.out; have := flat_cnt (srcsE_le (d + 1)) exprs; simp only [List.length_append, List.length_cons, List.length_nil]; omega))
        go_wp2_with (go_at_call 66; refine Hc.out.mono ?_; rintro y w5 ⟨rfl, hU5, hB5⟩)
        go_roundw
        case rel => exact ⟨k + 1, by omega, by go_num, by rw [flat_take Hx.out, ← List.append_assoc]; exact hU4n.first hU5 hB5, (hB4.then_below hbn).trans' (but_s1 hB5)⟩
        case measure => simp [intOf]; omega
    · have hU6 : Sets wr b1 b2 b3 (L1 ++ [src] ++ exprs.flatMap (srcsE d)) (L2 ++ [src]) (L3 ++ ([] : List ByteArray)) := by rw [List.take_of_length_le (by rw [Hlen.out]; omega)] at hU4; exact hU4
      clear hU4
      obtain ⟨rB, hrB, h8B, h1B, hlB, hpB⟩ := ls_rows (Hbl.out wr hB4)
      obtain ⟨rL, hrL, h8L, h1L, hlL, hpL⟩ := ls_rows (Hll.out wr hB4)
      have hS4 : ∀ k, S3 b1 b2 b3 k → k < wr.heap.size := fun k h => by rcases h with rfl | rfl | rfl <;> first | exact hU6.one.lt | exact hU6.two.lt | exact hU6.three.lt
      have HpB := Lib.hid hpB
      have HpL := Lib.hid hpL
      have H8B := Lib.hid h8B
      have H8L := Lib.hid h8L
      have H1B := Lib.hid h1B
      have H1L := Lib.hid h1L
      have HlB := Lib.hid hlB
      have HlL := Lib.hid hlL
      have HS4 := Lib.hid hS4
      clear hpB hpL h8B h8L h1B h1L hlB hlL hS4
      have hcnt : nb + nl ≤ 1000000 := by omega
      have Hcell := Lib.hid (fun W (hW : Below wr.heap.size wr W) => (Hx2.out W (hB4.then_below hW)).2)
      have hm1 : nb + nl ≤ maxLen := by unfold maxLen; omega
      have hm2 : (nb + nl) * 144 ≤ 140737488355328 := by omega
      obtain ⟨N, HN⟩ : ∃ N, Hid (nb + nl = N) := ⟨_, rfl⟩
      go_upto_region 16 with (fail)
      go_cut [55, 56, 57] from 50 to 64 (Joined b1 b2 b3 d (body ++ els) N (fun W => Sets W b1 b2 b3 (L1 ++ [src] ++ exprs.flatMap (srcsE d)) (L2 ++ [src]) (L3 ++ ([] : List ByteArray)) ∧ But (S3 b1 b2 b3) w2 W))
      case first =>
        go_region_law (first
          | (refine step_app (base := wr.drew.heap.size) (xs := rB) (news := rL) rfl rfl tySt rfl hown5 rfl ((RowsAt.drew hrL).below hb5) H8L.out H1L.out hm1 hm2 hm3 ?_; intro A6 c6 w6 hown6 hbut6 hf6)
          | (go_simp; go_at_call 67; refine (cloneSt_any _ _ _ _ (by omega) _ (RowsAt.drew hrB) H8B.out H1B.out).mono ?_; rintro x w5 ⟨A5, c5, rfl, hown5, hb5⟩; have hb45 : Below wr.heap.size wr w5 := ((Below.refl _ _).drew).trans hb5; obtain ⟨u0, u2, u5, u6, u7, ul⟩ := Hcell.out w5 hb45; have hm3 := hb5.size))
        all_goals
          go_wp2
          go_meet
          have hb46 : Below wr.heap.size wr w6 := hb45.trans (hbut6.below' hb45.size (fun i hi => by
            cases A5 with
            | none => cases hi
            | some a5 =>
              have h := (hown5.lt a5.block rfl).1
              simp at hi
              subst hi
              exact h))
          exact ⟨A6, c6, by rw [← HN.out], by rw [← HN.out]; go_num, rfl, by rw [← HN.out]; exact joined_ls HS4.out hown6 H8B.out H8L.out hrB.len hrL.len HlB.out HlL.out HpB.out HpL.out (But.of_below hb46), hU6.below hb46, hB4.then_below hb46⟩
      case rest =>
        obtain ⟨A6, c6, rfl, rfl, rfl, hys, hU7, hB7⟩ := hcut
        obtain ⟨es, Hes⟩ : ∃ l, Hid (exprs.flatMap (srcsE d) = l) := ⟨_, rfl⟩
        obtain ⟨ys, Hys⟩ : ∃ l, Hid (body ++ els = l) := ⟨_, rfl⟩
        have hesl : es.length ≤ (exprs.map (cntE d)).sum := by rw [← Hes.out]; exact flat_cnt (srcsE_le d) exprs
        have hsum : (ys.map (cntS d)).sum = (body.map (cntS d)).sum + (els.map (cntS d)).sum := by rw [← Hys.out, List.map_append, List.sum_append]
        have Hyl : Hid (ys.length = N) := Lib.hid (by rw [← Hys.out, List.length_append, HlenB.out, HlenL.out, HN.out])
        have hNb : N ≤ 1000000 := by rw [← HN.out]; exact hcnt
        have Hsum := Lib.hid hsum
        rw [Hes.out] at hU7
        rw [Hys.out] at hys
        obtain ⟨sE, HsE⟩ : ∃ s, Hid ((exprs.map (cntE d)).sum = s) := ⟨_, rfl⟩
        obtain ⟨sY, HsY⟩ : ∃ s, Hid ((ys.map (cntS d)).sum = s) := ⟨_, rfl⟩
        have G1 : L1.length + (1 + sE + sY) ≤ 1000000 := by rw [← HsE.out, ← HsY.out]; omega
        have G2 : L2.length + (1 + sE + sY) ≤ 1000000 := by rw [← HsE.out, ← HsY.out]; omega
        have G3 : L3.length + (1 + sE + sY) ≤ 1000000 := by rw [← HsE.out, ← HsY.out]; omega
        rw [HsE.out] at hesl
        clear hsum g1 g2 g3 cb' cl' Hel Hbl Hll hrB hrL hB4 hU6 HS4 HpB HpL H8B H8L H1B H1L HlB HlL Hcell Hsum z0 z1 z2 zl v0 v2 v5 v6 v7 vl hk
        have Hys2 := Lib.hid hys
        clear hys
        go_wp2_with (fail)
        go_loopw [57] (fun i wq => ∃ k : Nat, k ≤ N ∧ i = .int .i64 k ∧ Sets wq b1 b2 b3 (L1 ++ [src] ++ es ++ (ys.take k).flatMap (readsS d)) (L2 ++ [src] ++ (ys.take k).flatMap (writesS d)) (L3 ++ ([] : List ByteArray) ++ (ys.take k).flatMap (emitsS d)) ∧ But (S3 b1 b2 b3) wc wq) (fun i _ => N - (intOf i).toNat)
        case atStart => exact ⟨0, Nat.zero_le _, rfl, by simpa using hU7, But.refl _ _⟩
        case round =>
          obtain ⟨j, hj, rfl, hUq, hBq⟩ := hrel
          obtain ⟨⟨z0, z1, z2, zl⟩, v0, v2, v5, v6, v7, vl⟩ := Hx2.out wr (hB7.trans' hBq)
          by_cases hlt2 : j < N
          · cases d with
            | zero =>
              obtain ⟨b, o, r, e, hA, hbl, _, he, hl, hp, hc⟩ := LsAt.get (Hys2.out.kept (nb_kept hBq)) hlt2
              exact hp.elim
            | succ d =>
              obtain ⟨b, o, x, Ac2, nc2, cc2, Ae2, ne2, ce2, Ab2, nb2, cb2, Al2, nl2, cl2, rfl, hbl, hx, hc0, hc1, hc2, hc3, hc4, hc5, hc6, hc7, hp, _⟩ := StsAt.get (Hys2.out.kept (nb_kept hBq)) hlt2
              have Hx := Lib.hid hx
              clear hx
              have hbn : Below wr.heap.size wr (wr.alloc (.cells #[.int .i64 x.op, .string x.name, .string x.src, .int .i64 x.n, .slice Ac2 nc2 cc2, .slice Ae2 ne2 ce2, .slice Ab2 nb2 cb2, .slice Al2 nl2 cl2] 52)) := (Below.refl _ _).alloc (Nat.le_refl _) _
              have hUn := hUq.below hbn
              have t0 := sum_take (f := cntS (d + 1)) Hx.out
              rw [HsY.out] at t0
              have t1 := flat_cnt (readsS_le (d + 1)) (ys.take j)
              have t2 := flat_cnt (writesS_le (d + 1)) (ys.take j)
              have t3 := flat_cnt (emitsS_le (d + 1)) (ys.take j)
              have Hc := Lib.hid (ih b1 b2 b3 x _ _ _ _ _ (hp.below hbn) hUn (by simp only [List.length_append, List.length_cons, List.length_nil]; omega) (by simp only [List.length_append, List.length_cons, List.length_nil]; omega) (by simp only [List.length_append, List.length_nil]; omega))
              clear t0 t1 t2 t3 hUn
              go_wp2_with (go_at_call 53; refine Hc.out.mono ?_; rintro y w8 ⟨rfl, hU8, hB8⟩)
              go_roundw
              case rel => exact ⟨j + 1, by omega, by go_num, by simp only [flat_take Hx.out, ← List.append_assoc]; exact hU8, (hBq.then_below hbn).trans' hB8⟩
              case measure => simp [intOf]; omega
          · go_wp2
            go_end0
            refine ⟨rfl, ?_, hb02.trans' (hB7.trans' hBq)⟩
            rw [List.take_of_length_le (by rw [Hyl.out]; omega)] at hUq
            rw [Hes.out, Hys.out]
            simp only [List.append_nil, List.append_assoc] at hUq ⊢
            exact hUq
end Go.Proofs.Ytgihhkfppnhdpaa

namespace Go.Afx
open Go.RowKit

def maxN (l : List Nat) : Nat := l.foldr max 0
theorem maxN_cons (a : Nat) (l : List Nat) : maxN (a :: l) = max a (maxN l) := rfl
theorem maxN_le {b : Nat} : ∀ {l : List Nat}, (∀ x ∈ l, x ≤ b) → maxN l ≤ b := by
  intro l
  induction l with
  | nil => intro _; simp [maxN]
  | cons a r ih => intro h; rw [maxN_cons]; have := h a (by simp); have := ih fun x hx => h x (by simp [hx]); omega
def dptE : Nat → Ex → Nat
  | 0, _ => 0
  | d + 1, e => 1 + maxN (e.args.map (dptE d))
def dptS : Nat → St → Nat
  | 0, _ => 0
  | d + 1, x => 1 + max (max (maxN (x.exprs.map (dptE d))) (maxN (x.body.map (dptS d)))) (maxN (x.els.map (dptS d)))
theorem dptE_le (d : Nat) : ∀ e, dptE d e ≤ d := by
  induction d with
  | zero => intro e; simp [dptE]
  | succ d ih =>
    intro e
    have : maxN (e.args.map (dptE d)) ≤ d := maxN_le fun x hx => by obtain ⟨y, _, rfl⟩ := List.mem_map.1 hx; exact ih y
    rw [dptE]; omega
theorem dptS_le (d : Nat) : ∀ e, dptS d e ≤ d := by
  induction d with
  | zero => intro e; simp [dptS]
  | succ d ih =>
    intro e
    have h1 : maxN (e.exprs.map (dptE d)) ≤ d := maxN_le fun x hx => by obtain ⟨y, _, rfl⟩ := List.mem_map.1 hx; exact dptE_le d y
    have h2 : maxN (e.body.map (dptS d)) ≤ d := maxN_le fun x hx => by obtain ⟨y, _, rfl⟩ := List.mem_map.1 hx; exact ih y
    have h3 : maxN (e.els.map (dptS d)) ≤ d := maxN_le fun x hx => by obtain ⟨y, _, rfl⟩ := List.mem_map.1 hx; exact ih y
    rw [dptS]; omega

/-- 's counts N nodes and a depth of H, as far as is counted' -/
def Cts (s : Int × Int) (N H : Nat) : Prop := s.1 = min (N : Int) 1000 ∧ (N < 1000 → s.2 = H) ∧ H ≤ 900
theorem Cts.nought : Cts (0, 0) 0 0 := ⟨by decide, fun _ => rfl, by omega⟩
theorem Cts.add {s t : Int × Int} {N H M K : Nat} (h : Cts s N H) (k : Cts t M K) : Cts (addZ s t) (N + M) (max H K) := by
  obtain ⟨h1, h2, h3⟩ := h
  obtain ⟨k1, k2, k3⟩ := k
  refine ⟨?_, fun hl => ?_, by omega⟩
  · simp only [addZ]; omega
  · have a := h2 (by omega)
    have b := k2 (by omega)
    simp only [addZ]; omega
theorem Cts.over {s : Int × Int} {N H : Nat} (h : Cts s N H) (hH : H + 1 ≤ 900) : Cts (overZ s) (1 + N) (1 + H) := by
  obtain ⟨h1, h2, h3⟩ := h
  refine ⟨?_, fun hl => ?_, by omega⟩
  · simp only [overZ]; omega
  · have a := h2 (by omega)
    simp only [overZ]; omega
theorem Cts.all {α : Type} {lv : Int} {one : α → Int × Int} {f g : α → Nat} (hlv : lv < 1000) (h : ∀ x, Cts (one x) (f x) (g x)) : ∀ (l : List α) {s : Int × Int} {N H : Nat}, Cts s N H → Cts (allZ lv one s l) (N + (l.map f).sum) (max H (maxN (l.map g))) := by
  intro l
  induction l with
  | nil => intro s N H hs; simpa [allZ, maxN] using hs
  | cons x r ih =>
    intro s N H hs
    rw [List.map_cons, List.map_cons, List.sum_cons, maxN_cons]
    unfold allZ
    split
    · rename_i hf
      obtain ⟨h1, h2, h3⟩ := hs
      have hN : ¬ N < 1000 := by
        intro hN
        have a := h2 hN
        simp only [fullZ, Bool.or_eq_true, decide_eq_true_eq] at hf
        omega
      have hg : ∀ l : List α, maxN (l.map g) ≤ 900 := fun l => maxN_le fun y hy => by obtain ⟨z, _, rfl⟩ := List.mem_map.1 hy; exact (h z).2.2
      have := hg r
      have := (h x).2.2
      exact ⟨by simp; omega, fun hl => absurd hl (by omega), by omega⟩
    · have := ih (hs.add (h x))
      rw [Nat.add_assoc, Nat.max_assoc] at this
      exact this
theorem sizeE_cts (d : Nat) : ∀ (lv : Int) (e : Ex), lv + d ≤ 900 → d ≤ 900 → Cts (sizeE d lv e) (cntE d e) (dptE d e) := by
  induction d with
  | zero => intro lv e _ _; exact Cts.nought
  | succ d ih =>
    intro lv e h hd
    rw [sizeE, cntE, dptE]
    have := Cts.all (lv := lv + 1) (by omega) (fun x => ih (lv + 1) x (by omega) (by omega)) e.args Cts.nought
    rw [Nat.zero_add, Nat.zero_max] at this
    refine this.over ?_
    have := dptE_le (d + 1) e
    rw [dptE] at this
    omega
theorem sizeS_cts (d : Nat) : ∀ (lv : Int) (e : St), lv + d ≤ 900 → d ≤ 900 → Cts (sizeS d lv e) (cntS d e) (dptS d e) := by
  induction d with
  | zero => intro lv e _ _; exact Cts.nought
  | succ d ih =>
    intro lv e h hd
    rw [sizeS, cntS, dptS]
    have h1 := Cts.all (lv := lv + 1) (by omega) (fun x => sizeE_cts d (lv + 1) x (by omega) (by omega)) e.exprs Cts.nought
    have h2 := Cts.all (lv := lv + 1) (by omega) (fun x => ih (lv + 1) x (by omega) (by omega)) e.body Cts.nought
    have h3 := Cts.all (lv := lv + 1) (by omega) (fun x => ih (lv + 1) x (by omega) (by omega)) e.els Cts.nought
    rw [Nat.zero_add, Nat.zero_max] at h1 h2 h3
    rw [Nat.add_assoc 1, Nat.add_assoc 1]
    refine ((h1.add h2).add h3).over ?_
    have := dptS_le (d + 1) e
    rw [dptS] at this
    omega

def cntP (d : Nat) (p : Pr) : Nat := (p.body.map (cntS d)).sum
def dptP (d : Nat) (p : Pr) : Nat := maxN (p.body.map (dptS d))
theorem sizeP_cts (d : Nat) (p : Pr) (hd : d ≤ 900) : Cts (sizeP d p) (cntP d p) (dptP d p) := by
  have := Cts.all (lv := 0) (by omega) (fun x => sizeS_cts d 0 x (by omega) hd) p.body Cts.nought
  rw [Nat.zero_add, Nat.zero_max] at this
  exact this
theorem small_cnt {d : Nat} {p : Pr} (hd : d ≤ 900) (h : smallZ (sizeP d p) = true) : cntP d p ≤ 300 ∧ dptP d p ≤ 12 := by
  obtain ⟨h1, h2, _⟩ := sizeP_cts d p hd
  simp only [smallZ, Bool.and_eq_true, decide_eq_true_eq] at h
  have : cntP d p ≤ 300 := by omega
  have := h2 (by omega)
  omega

def readsP (d : Nat) (p : Pr) : List ByteArray := if rightB d p then p.body.flatMap (readsS d) else []
def writesP (d : Nat) (p : Pr) : List ByteArray := if rightB d p then p.body.flatMap (writesS d) else []
def emitsP (d : Nat) (p : Pr) : List ByteArray := if rightB d p then p.body.flatMap (emitsS d) else []
end Go.Afx

namespace Go.Proofs.Ytgihhkfppnhdpaa
open Go.RowKit Go.Afx Go.Maps Go.WideMaps

theorem usesS_any (d : Nat) : UsesS d := by
  induction d with
  | zero => intro b1 b2 b3 x row w L1 L2 L3 h; exact h.elim
  | succ d ih =>
    intro b1 b2 b3 x row w L1 L2 L3 h hu g1 g2 g3
    obtain ⟨ho, hn, hnm, hsr, Ac, nc, cc, Ae, ne, ce, Ab, nb, cb, Al, nl, cl, rfl, hcl, hel, hbl, hll⟩ := h.open_
    rw [cntS, Nat.add_assoc 1, Nat.add_assoc 1, ← Nat.add_assoc 1, ← Nat.add_assoc 1] at g1 g2 g3
    have e1 : ∀ o : List ByteArray, (if x.op = 4 ∨ x.op = 5 ∨ x.op = 6 then [x.src] else []) = o → readsS (d + 1) x = o ++ x.exprs.flatMap (srcsE d) ++ (x.body ++ x.els).flatMap (readsS d) := by
      intro o ho; rw [readsS, ho, List.flatMap_append, List.append_assoc, List.append_assoc]
    have e2 : ∀ o : List ByteArray, (if x.op = 3 ∨ x.op = 4 ∨ x.op = 5 then [x.src] else []) = o → writesS (d + 1) x = o ++ (x.body ++ x.els).flatMap (writesS d) := by
      intro o ho; rw [writesS, ho, List.flatMap_append, List.append_assoc]
    have e3 : ∀ o : List ByteArray, (if x.op = 8 then [x.src] else []) = o → emitsS (d + 1) x = o ++ (x.body ++ x.els).flatMap (emitsS d) := by
      intro o ho; rw [emitsS, ho, List.flatMap_append, List.append_assoc]
    by_cases h4 : x.op = 4
    · rw [e1 [x.src] (by simp [h4]), e2 [x.src] (by simp [h4]), e3 [] (by simp [h4]), h4]
      exact uses_4 d ih b1 b2 b3 x.n x.name x.src Ac Ae Ab Al nc cc ne ce nb cb nl cl x.exprs x.body x.els w L1 L2 L3 hsr hel hbl hll hu (by omega) (by omega) (by omega)
    by_cases h5 : x.op = 5
    · rw [e1 [x.src] (by simp [h5]), e2 [x.src] (by simp [h5]), e3 [] (by simp [h5]), h5]
      exact uses_5 d ih b1 b2 b3 x.n x.name x.src Ac Ae Ab Al nc cc ne ce nb cb nl cl x.exprs x.body x.els w L1 L2 L3 hsr hel hbl hll hu (by omega) (by omega) (by omega)
    by_cases h6 : x.op = 6
    · rw [e1 [x.src] (by simp [h6]), e2 [] (by simp [h6]), e3 [] (by simp [h6]), h6]
      exact uses_6 d ih b1 b2 b3 x.n x.name x.src Ac Ae Ab Al nc cc ne ce nb cb nl cl x.exprs x.body x.els w L1 L2 L3 hsr hel hbl hll hu (by omega) (by omega) (by omega)
    by_cases h3 : x.op = 3
    · rw [e1 [] (by simp [h3]), e2 [x.src] (by simp [h3]), e3 [] (by simp [h3]), h3]
      exact uses_3 d ih b1 b2 b3 x.n x.name x.src Ac Ae Ab Al nc cc ne ce nb cb nl cl x.exprs x.body x.els w L1 L2 L3 hsr hel hbl hll hu (by omega) (by omega) (by omega)
    by_cases h8 : x.op = 8
    · rw [e1 [] (by simp [h8]), e2 [] (by simp [h8]), e3 [x.src] (by simp [h8]), h8]
      exact uses_8 d ih b1 b2 b3 x.n x.name x.src Ac Ae Ab Al nc cc ne ce nb cb nl cl x.exprs x.body x.els w L1 L2 L3 hsr hel hbl hll hu (by omega) (by omega) (by omega)
    · rw [e1 [] (by simp [h4, h5, h6]), e2 [] (by simp [h3, h4, h5]), e3 [] (by simp [h8])]
      exact uses_none d ih b1 b2 b3 x.op x.n x.name x.src Ac Ae Ab Al nc cc ne ce nb cb nl cl x.exprs x.body x.els w L1 L2 L3 (by omega) hel hbl hll hu (by omega) (by omega) (by omega)

theorem use_laid {w : World} {g : Nat} (hg : g = w.heap.size) : UseAt (w.alloc (.map #[] 0)) g [] := by subst hg; exact UseAt.made w
theorem UseAt.alloc {w : World} {b : Nat} {L : List ByteArray} (h : UseAt w b L) (o : Obj) : UseAt (w.alloc o) b L := World.ownsMap.alloc h o
theorem Sets.but {w w' : World} {S : Nat → Prop} {b1 b2 b3 : Nat} {L1 L2 L3 : List ByteArray} (h : Sets w b1 b2 b3 L1 L2 L3) (hb : But S w w') (n1 : ¬ S b1) (n2 : ¬ S b2) (n3 : ¬ S b3) : Sets w' b1 b2 b3 L1 L2 L3 := ⟨h.one.but hb n1, h.two.but hb n2, h.three.but hb n3, h.n12, h.n13, h.n23⟩
theorem usBox0 {w : World} {g : Nat} {T : TypeId} (h : IsBlk w g T #[.map none, .map none, .map none]) :
    w.cell? ⟨g, 0, none⟩ = some (.map none) ∧ w.cell? ⟨g, 1, none⟩ = some (.map none) ∧ w.cell? ⟨g, 2, none⟩ = some (.map none) ∧ g < w.heap.size := by
  have h0 := h.cell 0; have h1 := h.cell 1; have h2 := h.cell 2
  simp at h0 h1 h2
  exact ⟨h0, h1, h2, h.lt⟩
theorem res_ok {W w : World} {B g b1 b2 b3 : Nat} {R Wr Em : List ByteArray} (hS : Sets W b1 b2 b3 R Wr Em) (n1 : b1 ≠ g) (n2 : b2 ≠ g) (n3 : b3 ≠ g) (hB : Below B w W) (hg : B ≤ g) (u v x : Value) :
    Sets (((W.setCell ⟨g, 0, none⟩ u).setCell ⟨g, 1, none⟩ v).setCell ⟨g, 2, none⟩ x) b1 b2 b3 R Wr Em ∧ Below B w (((W.setCell ⟨g, 0, none⟩ u).setCell ⟨g, 1, none⟩ v).setCell ⟨g, 2, none⟩ x) := by
  have hb : But (fun k => k = g) W (((W.setCell ⟨g, 0, none⟩ u).setCell ⟨g, 1, none⟩ v).setCell ⟨g, 2, none⟩ x) := (((But.refl (fun k => k = g) W).setCell (p := ⟨g, 0, none⟩) (.inl rfl) u).setCell (p := ⟨g, 1, none⟩) (.inl rfl) v).setCell (p := ⟨g, 2, none⟩) (.inl rfl) x
  exact ⟨hS.but hb n1 n2 n3, ((hB.setCell (p := ⟨g, 0, none⟩) hg u).setCell (p := ⟨g, 1, none⟩) hg v).setCell (p := ⟨g, 2, none⟩) hg x⟩
/-- what 'used' hands back -/
def GivesU (w : World) (R Wr Em : List ByteArray) (r : Ending) (w' : World) : Prop :=
  ∃ b1 b2 b3, r = .returned (.agg #[.map (some b1), .map (some b2), .map (some b3)]) ∧ Sets w' b1 b2 b3 R Wr Em ∧ Below w.heap.size w w'

set_option maxRecDepth 100000 in
set_option maxHeartbeats 2000000 in
theorem used_any (F : Nat → Prop) (d : Nat) (p : Pr) (row : List Value) (w : World) (h : PrAt F d w row p) (hF : ∀ k, F k → k < w.heap.size) (hd : d ≤ 900) (hbig : p.params.length ≤ 1000000) :
    Calls Try.prog 35 #[.agg row.toArray] w (GivesU w (readsP d p) (writesP d p) (emitsP d p)) := by
  have hr := fun W (hW : Below w.heap.size w W) => right_any F d p row W (h.below hW) (by omega) hbig
  obtain ⟨okn, oks, okp, _, Ap, np, cp, Ab, nb, cb, rfl, hpl, hbl⟩ := h
  have hmm := @run_makeMap Try.prog
  have hnb := LsAt.n_le hbl
  have Hlen := Lib.hid (LsAt.len hbl)
  have hcnt : rightB d p = true → cntP d p ≤ 300 := fun h => by
    rw [rightB_eq] at h
    simp only [Bool.and_eq_true] at h
    exact (small_cnt hd h.1.2).1
  have hP1 : readsP d p = if rightB d p then p.body.flatMap (readsS d) else [] := rfl
  have hP2 : writesP d p = if rightB d p then p.body.flatMap (writesS d) else [] := rfl
  have hP3 : emitsP d p = if rightB d p then p.body.flatMap (emitsS d) else [] := rfl
  obtain ⟨q, Hq⟩ : ∃ q, Hid (rightB d p = q) := ⟨_, rfl⟩
  rw [Hq.out] at hr hcnt hP1 hP2 hP3
  have Hr := Lib.hid hr
  have HP1 := Lib.hid hP1
  have HP2 := Lib.hid hP2
  have HP3 := Lib.hid hP3
  clear hr hP1 hP2 hP3 hpl
  obtain ⟨w6, Hw6⟩ : ∃ w6, Hid (w6 = (((((w.alloc (.cells #[.string p.name, .string p.src, .string p.part, .int .i64 p.fuel, .slice Ap np cp, .slice Ab nb cb] 34)).alloc (.cells #[.map none, .map none, .map none] 73)).alloc (.map #[] 0)).alloc (.map #[] 0)).alloc (.map #[] 0)).alloc (.cells #[.map (some (w.heap.size + 1 + 1)), .map (some (w.heap.size + 1 + 1 + 1)), .map (some (w.heap.size + 1 + 1 + 1 + 1))] 73)) := ⟨_, rfl⟩
  have hb6 : Below w.heap.size w w6 := by rw [Hw6.out]; exact ((((((Below.refl _ _).alloc (Nat.le_refl _) _).alloc (by simp) _).alloc (by simp; omega) _).alloc (by simp; omega) _).alloc (by simp; omega) _).alloc (by simp; omega) _
  have hz6 : w6.heap.size = w.heap.size + 6 := by rw [Hw6.out]; simp
  have hx6 : IsBlk w6 w.heap.size 34 #[.string p.name, .string p.src, .string p.part, .int .i64 p.fuel, .slice Ap np cp, .slice Ab nb cb] := by rw [Hw6.out]; exact (((((IsBlk.laid _ _ _).alloc _).alloc _).alloc _).alloc _).alloc _
  have hr6 : IsBlk w6 (w.heap.size + 1) 73 #[.map none, .map none, .map none] := by rw [Hw6.out]; exact ((((laid_at (by simp) _ _).alloc _).alloc _).alloc _).alloc _
  have hu6 : IsBlk w6 (w.heap.size + 1 + 1 + 1 + 1 + 1) 73 #[.map (some (w.heap.size + 1 + 1)), .map (some (w.heap.size + 1 + 1 + 1)), .map (some (w.heap.size + 1 + 1 + 1 + 1))] := by rw [Hw6.out]; exact laid_at (by simp) _ _
  have hS6 : Sets w6 (w.heap.size + 1 + 1) (w.heap.size + 1 + 1 + 1) (w.heap.size + 1 + 1 + 1 + 1) [] [] [] := by
    rw [Hw6.out]
    exact ⟨(((use_laid (by simp)).alloc _).alloc _).alloc _, ((use_laid (by simp)).alloc _).alloc _, (use_laid (by simp)).alloc _, by omega, by omega, by omega⟩
  go_enter Try.func35, Try.ntmps35
  go_upto_region 2 with (fail)
  rw [← Hw6.out]
  have Hx6 := Lib.hid hx6
  have Hr6 := Lib.hid hr6
  have Hu6 := Lib.hid hu6
  have HS6 := Lib.hid hS6
  have Hz6 := Lib.hid hz6
  obtain ⟨i0, i1, i2, i3, i4, i5, il⟩ := prBox hx6
  clear hx6 hr6 hu6 hz6 hS6
  cases q
  · go_wp2_with (go_at_call 16; refine (Hr.out _ hb6).mono ?_; rintro x w7 ⟨rfl, hb7⟩; have hu7 := Hu6.out.as_was (hb7.block _ Hu6.out.lt); have hr7 := Hr6.out.as_was (hb7.block _ Hr6.out.lt); obtain ⟨j0, j1, j2, jl⟩ := usBox hu7; obtain ⟨r0, r1, r2, rl⟩ := usBox0 hr7; have rf := hr7.frozen)
    have hz7 := hb7.size
    have hz := Hz6.out
    obtain ⟨k1, k2⟩ := res_ok (g := w.heap.size + 1) (HS6.out.below hb7) (by omega) (by omega) (by omega) (hb6.trans (hb7.mono hb6.size)) (by omega) (.map (some (w.heap.size + 1 + 1))) (.map (some (w.heap.size + 1 + 1 + 1))) (.map (some (w.heap.size + 1 + 1 + 1 + 1)))
    refine bodyPost_ret (v := .agg #[.map (some (w.heap.size + 1 + 1)), .map (some (w.heap.size + 1 + 1 + 1)), .map (some (w.heap.size + 1 + 1 + 1 + 1))]) (by simp [results, Try.results35, go_sem, r0, r1, r2]) rfl ⟨_, _, _, rfl, ?_, k2⟩
    rw [HP1.out, HP2.out, HP3.out]
    exact k1
  · go_wp2_with (go_at_call 16; refine (Hr.out _ hb6).mono ?_; rintro x w7 ⟨rfl, hb7⟩; have hx7 := Hx6.out.as_was (hb7.block _ Hx6.out.lt); obtain ⟨j0, j1, j2, j3, j4, j5, jl⟩ := prBox hx7)
    have hz7 := hb7.size
    have hz := Hz6.out
    have hcnt' : cntP d p ≤ 300 := by simpa using hcnt
    have hb07 := hb6.trans (hb7.mono hb6.size)
    have hbl7 : StsAt (NB (w.heap.size + 1 + 1) (w.heap.size + 1 + 1 + 1) (w.heap.size + 1 + 1 + 1 + 1)) d w7 Ab nb cb p.body := StsAt.conv (fun k hk => by have := hF k hk; exact ⟨by omega, by omega, by omega⟩) (Kept.of_below hb07) (Nat.le_refl _) hbl
    have hS7 := HS6.out.below hb7
    have Hu7 := Lib.hid (Hu6.out.as_was (hb7.block _ Hu6.out.lt))
    have Hr7 := Lib.hid (Hr6.out.as_was (hb7.block _ Hr6.out.lt))
    have Hl7 := Lib.hid hbl7
    have Hs3 := Lib.hid (fun (W : World) (hW : But (S3 (w.heap.size + 1 + 1) (w.heap.size + 1 + 1 + 1) (w.heap.size + 1 + 1 + 1 + 1)) w7 W) => And.intro (usBox (Hu7.out.as_was (hW.block _ Hu7.out.lt (fun h => by rcases h with h | h | h <;> omega)))) (usBox0 (Hr7.out.as_was (hW.block _ Hr7.out.lt (fun h => by rcases h with h | h | h <;> omega)))))
    have Hfz := Lib.hid (fun (W : World) (hW : But (S3 (w.heap.size + 1 + 1) (w.heap.size + 1 + 1 + 1) (w.heap.size + 1 + 1 + 1 + 1)) w7 W) => (Hr7.out.as_was (hW.block _ Hr7.out.lt (fun h => by rcases h with h | h | h <;> omega))).frozen)
    clear hbl hbl7 hcnt
    go_loopw [15] (fun i wr => ∃ k : Nat, k ≤ nb ∧ i = .int .i64 k ∧ Sets wr (w.heap.size + 1 + 1) (w.heap.size + 1 + 1 + 1) (w.heap.size + 1 + 1 + 1 + 1) ((p.body.take k).flatMap (readsS d)) ((p.body.take k).flatMap (writesS d)) ((p.body.take k).flatMap (emitsS d)) ∧ But (S3 (w.heap.size + 1 + 1) (w.heap.size + 1 + 1 + 1) (w.heap.size + 1 + 1 + 1 + 1)) w7 wr) (fun i _ => nb - (intOf i).toNat)
    case atStart => exact ⟨0, Nat.zero_le _, rfl, by simpa using hS7, But.refl _ _⟩
    case round =>
      obtain ⟨k, hk, rfl, hS8, hB8⟩ := hrel
      obtain ⟨⟨u0, u1, u2, ul⟩, r0, r1, r2, rl⟩ := Hs3.out wr hB8
      have rf := Hfz.out wr hB8
      by_cases hlt : k < nb
      · cases d with
        | zero =>
          obtain ⟨b, o, r, e, hA, hbl, _, he, hl, hp, hc⟩ := LsAt.get (Hl7.out.kept (nb_kept hB8)) hlt
          exact hp.elim
        | succ d =>
          obtain ⟨b, o, x, Ac2, nc2, cc2, Ae2, ne2, ce2, Ab2, nb2, cb2, Al2, nl2, cl2, rfl, hbl, hx, hc0, hc1, hc2, hc3, hc4, hc5, hc6, hc7, hp, _⟩ := StsAt.get (Hl7.out.kept (nb_kept hB8)) hlt
          have Hx := Lib.hid hx
          clear hx
          have hbn : Below wr.heap.size wr (wr.alloc (.cells #[.int .i64 x.op, .string x.name, .string x.src, .int .i64 x.n, .slice Ac2 nc2 cc2, .slice Ae2 ne2 ce2, .slice Ab2 nb2 cb2, .slice Al2 nl2 cl2] 52)) := (Below.refl _ _).alloc (Nat.le_refl _) _
          have hUn := hS8.below hbn
          have t0 := sum_take (f := cntS (d + 1)) Hx.out
          have t1 := flat_cnt (readsS_le (d + 1)) (p.body.take k)
          have t2 := flat_cnt (writesS_le (d + 1)) (p.body.take k)
          have t3 := flat_cnt (emitsS_le (d + 1)) (p.body.take k)
          unfold cntP at hcnt'
          have Hc := Lib.hid (usesS_any (d + 1) _ _ _ x _ _ _ _ _ (hp.below hbn) hUn (by omega) (by omega) (by omega))
          clear t0 t1 t2 t3 hUn
          go_wp2_with (go_at_call 53; refine Hc.out.mono ?_; rintro y w8 ⟨rfl, hU8, hB9⟩)
          go_roundw
          case rel => exact ⟨k + 1, by omega, by go_num, by simp only [flat_take Hx.out]; exact hU8, (hB8.then_below hbn).trans' hB9⟩
          case measure => simp [intOf]; omega
      · go_wp2
        have hb08 : Below w.heap.size w wr := hb07.trans (hB8.below' hb07.size (fun i hi => by rcases hi with hi | hi | hi <;> omega))
        rw [List.take_of_length_le (by rw [Hlen.out]; omega)] at hS8
        obtain ⟨k1, k2⟩ := res_ok (g := w.heap.size + 1) hS8 (by omega) (by omega) (by omega) hb08 (by omega) (.map (some (w.heap.size + 1 + 1))) (.map (some (w.heap.size + 1 + 1 + 1))) (.map (some (w.heap.size + 1 + 1 + 1 + 1)))
        refine bodyPost_ret (v := .agg #[.map (some (w.heap.size + 1 + 1)), .map (some (w.heap.size + 1 + 1 + 1)), .map (some (w.heap.size + 1 + 1 + 1 + 1))]) (by simp [results, Try.results35, go_sem, r0, r1, r2]) rfl ⟨_, _, _, rfl, ?_, k2⟩
        rw [HP1.out, HP2.out, HP3.out]
        exact k1
end Go.Proofs.Ytgihhkfppnhdpaa

namespace Go.Proofs.Ytgihhkfppnhdpaa
open Go.RowKit Go.Afx Go.Maps Go.WideMaps Go.Shelf Go.Sort

/-- a set's names, in order -/
def setL (L : List ByteArray) : List (List UInt8) := (strKeys (setOf (.lit (.bool true)) (L.map litS) : DataW Unit)).mergeSort fun x y => decide (x ≤ y)

theorem sortsZ (m : Nat) : AnyZ.SortsIn Try.prog Try.sortedZ_ren Fence.wide m :=
  ⟨fun blk off cap ss W hH hblk hsz => callsIn_wide.2 (AnyM.slices_Sort_string Try.sortS blk off cap ss W hH hblk hsz),
   fun p cap W => callsIn_wide.2 (AnyM.slices_Sort_string_none Try.sortS p cap W)⟩

theorem keys_any (b : Nat) (w : World) : Calls Try.prog 34 #[.map (some b)] w fun e w' => e = .returned (.func (.func 52) #[] #[.pointer (some ⟨w.heap.size, 0, none⟩)]) ∧ w' = w.alloc (.cells #[.map (some b)] 71) :=
  callsIn_wide.1 (AnyZ.keys_in Try.keysZ Fence.wide 5 trivial rfl (some b) w)

/-- a slice of the call's own, of these names -/
def OwnsN (w : World) (ns : List (List UInt8)) (e : Ending) (w' : World) : Prop :=
  ∃ A c, e = .returned (.slice A ns.length c) ∧ w'.ownsRow w.heap.size 9 1 (.slice A ns.length c) ns.length (ns.map encStr) ∧ Below w.heap.size w w'

theorem sortedKeys_any (b : Nat) (L : List ByteArray) (w : World) (h : UseAt w b L) (hL : L.length ≤ 1000000) :
    Calls Try.prog 33 #[.func (.func 52) #[] #[.pointer (some ⟨w.heap.size, 0, none⟩)]] (w.alloc (.cells #[.map (some b)] 71)) (OwnsN (w.alloc (.cells #[.map (some b)] 71)) (setL L)) := by
  have hown : w.ownsMap Try.prog 9 (plainElem (H := Unit) Try.prog 4) b L.length (setOf (.lit (.bool true)) (L.map litS)) := h
  have hsz := World.ownsMap.size_le hown
  have hbl := h.lt
  have hseq : SeqGives Fence.wide 2 Try.prog 52 #[.pointer (some ⟨w.heap.size, 0, none⟩)] encStr (fun ss => ss.Perm (strKeys (setOf (.lit (.bool true)) (L.map litS) : DataW Unit))) (Maps.size (setOf (.lit (.bool true)) (L.map litS) : DataW Unit)) (w.alloc (.cells #[.map (some b)] 71)) :=
    AnyZ.keys_gives (ρ := Try.keysZ_ren) { Try.keysZ with } Fence.wide _ trivial rfl (by omega) w.heap.size b L.length _ _ (by simp) (by simp) (UseAt.alloc h _)
  have cS := AnyZ.sorted_in Try.sortedZ Fence.wide 5 trivial trivial trivial trivial rfl (by omega) (sortsZ _) (enters_of Try.func51 (by kernel_rfl) rfl) 52 #[.pointer (some ⟨w.heap.size, 0, none⟩)] trivial (enters_of Try.func52 (by kernel_rfl) rfl) _ _ (by unfold maxLen; omega) (by omega) _ hseq
  refine (callsIn_wide.1 cS).mono ?_
  rintro e w' ⟨v, ss, rfl, hperm, hrow, hnil, hb⟩
  have hss : ss.mergeSort (fun x y => decide (x ≤ y)) = setL L := mergeSort_of_perm hperm
  have hlen : ss.length = (setL L).length := by rw [← hss, List.length_mergeSort]
  rw [hss, hlen] at hrow
  obtain ⟨A, c, rfl, _⟩ := ownsRow_form hrow
  exact ⟨A, c, rfl, hrow, hb⟩

set_option maxRecDepth 100000 in
set_option maxHeartbeats 1000000 in
theorem reads_any (F : Nat → Prop) (d : Nat) (p : Pr) (row : List Value) (w : World) (h : PrAt F d w row p) (hF : ∀ k, F k → k < w.heap.size) (hd : d ≤ 900) (hbig : p.params.length ≤ 1000000) (hL : (readsP d p).length ≤ 1000000) :
    Calls Try.prog 13 #[.agg row.toArray] w (OwnsN w (setL (readsP d p))) := by
  have hfd : ∀ (m1 m2 m3 : Nat) (W : World), (Instr.field 73 (.agg #[.map (some m1), .map (some m2), .map (some m3)]) 0).run Try.prog W = .ok (.map (some m1)) W := fun _ _ _ _ => by kernel_rfl
  have hb1 : ∀ o, Below w.heap.size w (w.alloc o) := fun o => (Below.refl _ _).alloc (Nat.le_refl _) o
  have Hu := Lib.hid (fun W (hW : Below w.heap.size w W) => used_any F d p row W (h.below hW) (fun k hk => Nat.lt_of_lt_of_le (hF k hk) hW.size) hd hbig)
  obtain ⟨okn, oks, okp, _, Ap, np, cp, Ab, nb, cb, rfl, hpl, hbl⟩ := h
  generalize readsP d p = R at *
  generalize writesP d p = Wr at *
  generalize emitsP d p = Em at *
  clear hpl hbl
  go_enter Try.func13, Try.ntmps13
  go_wp2_with (first | (go_at_call 35; refine (Hu.out _ (hb1 _)).mono ?_; rintro x w1 ⟨b1, b2, b3, rfl, hS, hb⟩; have HK := Lib.hid (sortedKeys_any _ _ w1 hS.one hL)) | (go_at_call 34; refine (keys_any _ _).mono ?_; rintro x w2 ⟨rfl, rfl⟩) | (go_at_call 33; refine HK.out.mono ?_; rintro x w3 ⟨A, c, rfl, hown, hb3⟩))
  go_ret
  have hz := hb.size
  simp at hz
  exact ⟨A, c, rfl, own_base hown (by simp; omega), ((hb1 _).trans (hb.mono (by simp))).trans (((Below.refl _ w1).alloc (Nat.le_refl _) _).trans (hb3.mono (by simp)) |>.mono (by omega))⟩

set_option maxRecDepth 100000 in
set_option maxHeartbeats 1000000 in
theorem writes_any (F : Nat → Prop) (d : Nat) (p : Pr) (row : List Value) (w : World) (h : PrAt F d w row p) (hF : ∀ k, F k → k < w.heap.size) (hd : d ≤ 900) (hbig : p.params.length ≤ 1000000) (hL : (writesP d p).length ≤ 1000000) :
    Calls Try.prog 18 #[.agg row.toArray] w (OwnsN w (setL (writesP d p))) := by
  have hfd : ∀ (m1 m2 m3 : Nat) (W : World), (Instr.field 73 (.agg #[.map (some m1), .map (some m2), .map (some m3)]) 1).run Try.prog W = .ok (.map (some m2)) W := fun _ _ _ _ => by kernel_rfl
  have hb1 : ∀ o, Below w.heap.size w (w.alloc o) := fun o => (Below.refl _ _).alloc (Nat.le_refl _) o
  have Hu := Lib.hid (fun W (hW : Below w.heap.size w W) => used_any F d p row W (h.below hW) (fun k hk => Nat.lt_of_lt_of_le (hF k hk) hW.size) hd hbig)
  obtain ⟨okn, oks, okp, _, Ap, np, cp, Ab, nb, cb, rfl, hpl, hbl⟩ := h
  generalize readsP d p = R at *
  generalize writesP d p = Wr at *
  generalize emitsP d p = Em at *
  clear hpl hbl
  go_enter Try.func18, Try.ntmps18
  go_wp2_with (first | (go_at_call 35; refine (Hu.out _ (hb1 _)).mono ?_; rintro x w1 ⟨b1, b2, b3, rfl, hS, hb⟩; have HK := Lib.hid (sortedKeys_any _ _ w1 hS.two hL)) | (go_at_call 34; refine (keys_any _ _).mono ?_; rintro x w2 ⟨rfl, rfl⟩) | (go_at_call 33; refine HK.out.mono ?_; rintro x w3 ⟨A, c, rfl, hown, hb3⟩))
  go_ret
  have hz := hb.size
  simp at hz
  exact ⟨A, c, rfl, own_base hown (by simp; omega), ((hb1 _).trans (hb.mono (by simp))).trans (((Below.refl _ w1).alloc (Nat.le_refl _) _).trans (hb3.mono (by simp)) |>.mono (by omega))⟩

set_option maxRecDepth 100000 in
set_option maxHeartbeats 1000000 in
theorem emits_any (F : Nat → Prop) (d : Nat) (p : Pr) (row : List Value) (w : World) (h : PrAt F d w row p) (hF : ∀ k, F k → k < w.heap.size) (hd : d ≤ 900) (hbig : p.params.length ≤ 1000000) (hL : (emitsP d p).length ≤ 1000000) :
    Calls Try.prog 19 #[.agg row.toArray] w (OwnsN w (setL (emitsP d p))) := by
  have hfd : ∀ (m1 m2 m3 : Nat) (W : World), (Instr.field 73 (.agg #[.map (some m1), .map (some m2), .map (some m3)]) 2).run Try.prog W = .ok (.map (some m3)) W := fun _ _ _ _ => by kernel_rfl
  have hb1 : ∀ o, Below w.heap.size w (w.alloc o) := fun o => (Below.refl _ _).alloc (Nat.le_refl _) o
  have Hu := Lib.hid (fun W (hW : Below w.heap.size w W) => used_any F d p row W (h.below hW) (fun k hk => Nat.lt_of_lt_of_le (hF k hk) hW.size) hd hbig)
  obtain ⟨okn, oks, okp, _, Ap, np, cp, Ab, nb, cb, rfl, hpl, hbl⟩ := h
  generalize readsP d p = R at *
  generalize writesP d p = Wr at *
  generalize emitsP d p = Em at *
  clear hpl hbl
  go_enter Try.func19, Try.ntmps19
  go_wp2_with (first | (go_at_call 35; refine (Hu.out _ (hb1 _)).mono ?_; rintro x w1 ⟨b1, b2, b3, rfl, hS, hb⟩; have HK := Lib.hid (sortedKeys_any _ _ w1 hS.three hL)) | (go_at_call 34; refine (keys_any _ _).mono ?_; rintro x w2 ⟨rfl, rfl⟩) | (go_at_call 33; refine HK.out.mono ?_; rintro x w3 ⟨A, c, rfl, hown, hb3⟩))
  go_ret
  have hz := hb.size
  simp at hz
  exact ⟨A, c, rfl, own_base hown (by simp; omega), ((hb1 _).trans (hb.mono (by simp))).trans (((Below.refl _ w1).alloc (Nat.le_refl _) _).trans (hb3.mono (by simp)) |>.mono (by omega))⟩
end Go.Proofs.Ytgihhkfppnhdpaa
