/- Parts of this proof, one behind the other: PrsK, PrsM. -/
import Derived.Test.YtmgldjpdhpopnaaGreatDoorPp42
set_option maxRecDepth 1000000
set_option maxHeartbeats 40000000
namespace Go.Proofs.YtmgldjpdhpopnaaGreatDoor
open Go.RowKit Go.Afx
theorem strs_below {F : Nat → Prop} {n c : Nat} {w : World} {A : Option Addr} {xs : List ByteArray} (h : LsAt F w 1 SRow A n c xs) {k : Nat} (hk : k < n) :
  ∃ b o x, A = some ⟨b, o, none⟩ ∧ xs[k]? = some x ∧ ∀ W, Below w.heap.size w W → b < W.heap.size ∧ W.cell? ⟨b, o + k, none⟩ = some (.string x) := by
 obtain ⟨b, o, r, x, hA, hb, hFb, hx, _, ⟨rfl, hok⟩, hc⟩ := h.get hk
 exact ⟨b, o, x, hA, hx, fun W hW => ⟨Nat.lt_of_lt_of_le hb hW.size, (hW.cell (p := ⟨b, o + k, none⟩) hb).trans (by simpa using hc 0 _ rfl)⟩⟩
theorem rst_4 (name src : ByteArray) (n : Int) (Ac Ab Al : Option Addr) (nc cc nb cb nl cl : Nat) (B : ByteArray) (F : Nat → Prop) (d : Nat) (cols : List ByteArray) (rest : List Ex) (b o ce : Nat) (a1 : Ex) (A1 : Option Addr) (m1 c1 : Nat) (S1 : ByteArray) (w : World) (hbl : b < w.heap.size) (hS1 : Six w b o a1 A1 m1 c1) (hD : RTx w 138 #[.string name, .string src, .agg #[.int .i64 a1.op, .int .i64 a1.n, .string a1.s, .string a1.name, .string a1.src, .slice A1 m1 c1]] S1) (hl1 : S1.size ≤ 1000000000) (hcol : LsAt F w 1 SRow Ac nc cc cols) (hx : ExsAt F d w (some ⟨b, o, none⟩) (nc + 1) ce (a1 :: rest)) (hb : ∀ e ∈ rest, builtE d e = true) (hnc : nc ≤ 1000) (hlen : (([117, 112, 100, 97, 116, 101, 32] ++ S1.data.toList ++ [32, 115, 101, 116, 32]) ++ joinT (setsT d cols rest) ++ [59]).length ≤ 1000000000) :
  Calls Tryz.prog 85 #[.agg #[.int .i64 4, .string name, .string src, .int .i64 n, .slice Ac nc cc, .slice (some ⟨b, o, none⟩) (nc + 1) ce, .slice Ab nb cb, .slice Al nl cl], .string B] w fun e' w' => e' = .returned (.string ⟨(([117, 112, 100, 97, 116, 101, 32] ++ S1.data.toList ++ [32, 115, 101, 116, 32]) ++ joinT (setsT d cols rest) ++ [59]).toArray⟩) ∧ Below w.heap.size w w' := by
 have hcl := LsAt.len hcol
 have hrl := LsAt.len hx
 rw [List.length_cons] at hrl
 have hsl := setsT_len_eq (d := d) (cols := cols) (es := rest) (by omega)
 have Hcl := Lhd hcl
 have Hrl := Lhd hrl
 have Hsl := Lhd hsl
 clear hcl hrl hsl
 have Hget := Lhd (fun k (hk : k < nc + 1) => exs_below hx hk)
 have Hcol := Lhd (fun k (hk : k < nc) => strs_below hcol hk)
 have Hb := Lhd hb
 have Hl := Lhd (show 7 + S1.size + 5 + (joinT (setsT d cols rest)).length + 1 ≤ 1000000000 from by have e : S1.size = S1.data.toList.length := rfl; simp only [List.length_append, List.length_cons, List.length_nil] at hlen; omega)
 have n0 : ¬ 9223372036854775807 < 7 + S1.size := by omega
 have n1 : ¬ 9223372036854775807 < 7 + S1.size + 5 := by omega
 have HS1 := Lhd (fun W (hW : Below w.heap.size w W) => hS1.later hbl hW)
 have HD := Lhd hD
 obtain ⟨w1, Hw1⟩ : ∃ w1, Hid (w1 = w.alloc (.cells #[.int .i64 4, .string name, .string src, .int .i64 n, .slice Ac nc cc, .slice (some ⟨b, o, none⟩) (nc + 1) ce, .slice Ab nb cb, .slice Al nl cl] 71)) := ⟨_, rfl⟩
 have hb1 : Below w.heap.size w w1 := by rw [Hw1.out]; exact (Below.refl _ _).alloc (Nat.le_refl _) _
 have hk1 : IsBlk w1 w.heap.size 71 #[.int .i64 4, .string name, .string src, .int .i64 n, .slice Ac nc cc, .slice (some ⟨b, o, none⟩) (nc + 1) ce, .slice Ab nb cb, .slice Al nl cl] := by rw [Hw1.out]; exact IsBlk.laid _ _ _
 have Hx := Lhd (fun W (hW : Below w1.heap.size w1 W) => box8 (hk1.as_was (hW.block _ hk1.lt)))
 have Hb1 := Lhd hb1
 have hrf : Below w1.heap.size w1 w1 := Below.refl _ _
 obtain ⟨x0, x1, x2, x3, x4, x5, x6, x7, xl⟩ := Hx.out _ hrf
 clear hb1 hk1 hD hl1 hbl hS1 hcol hx hb hlen
 go_enter Tryz.func85, Tryz.ntmps85
 go_upto_region 1 with (fail)
 rw [← Hw1.out]
 have HS := Lhd (fun W (hW : Below w1.heap.size w1 W) => (show W.cell? ⟨w.heap.size, 0, none⟩ = some (.int .i64 4) ∧ W.cell? ⟨w.heap.size, 1, none⟩ = some (.string name) ∧ W.cell? ⟨w.heap.size, 2, none⟩ = some (.string src) ∧ W.cell? ⟨w.heap.size, 3, none⟩ = some (.int .i64 n) ∧ W.cell? ⟨w.heap.size, 4, none⟩ = some (.slice Ac nc cc) ∧ W.cell? ⟨w.heap.size, 5, none⟩ = some (.slice (some ⟨b, o, none⟩) (nc + 1) ce) ∧ W.cell? ⟨w.heap.size, 6, none⟩ = some (.slice Ab nb cb) ∧ W.cell? ⟨w.heap.size, 7, none⟩ = some (.slice Al nl cl) ∧ W.cell? ⟨b, o, none⟩ = some (.int .i64 a1.op) ∧ W.cell? ⟨b, o + 1, none⟩ = some (.int .i64 a1.n) ∧ W.cell? ⟨b, o + 2, none⟩ = some (.string a1.s) ∧ W.cell? ⟨b, o + 3, none⟩ = some (.string a1.name) ∧ W.cell? ⟨b, o + 4, none⟩ = some (.string a1.src) ∧ W.cell? ⟨b, o + 5, none⟩ = some (.slice A1 m1 c1) ∧ w.heap.size < W.heap.size ∧ b < W.heap.size from by
  obtain ⟨p0, p1, p2, p3, p4, p5, p6, p7, p8⟩ := Hx.out W hW
  obtain ⟨q0, q1, q2, q3, q4, q5, q6⟩ := HS1.out W (Hb1.out.trans (hW.mono Hb1.out.size))
  exact ⟨p0, p1, p2, p3, p4, p5, p6, p7, q0, q1, q2, q3, q4, q5, p8, q6⟩))
 have HR := Lhd (HD.out.at_ Hb1.out)
 go_upto_region 11 with (fail)
 clear x0 x1 x2 x3 x4 x5 x6 x7 xl
 obtain ⟨x0, x1, x2, x3, x4, x5, x6, x7, z0, z1, z2, z3, z4, z5, xl, zl⟩ := HS.out w1 hrf
 go_region_held3 (fun W => W.cell? ⟨w.heap.size, 0, none⟩ = some (.int .i64 4) ∧ W.cell? ⟨w.heap.size, 1, none⟩ = some (.string name) ∧ W.cell? ⟨w.heap.size, 2, none⟩ = some (.string src) ∧ W.cell? ⟨w.heap.size, 3, none⟩ = some (.int .i64 n) ∧ W.cell? ⟨w.heap.size, 4, none⟩ = some (.slice Ac nc cc) ∧ W.cell? ⟨w.heap.size, 5, none⟩ = some (.slice (some ⟨b, o, none⟩) (nc + 1) ce) ∧ W.cell? ⟨w.heap.size, 6, none⟩ = some (.slice Ab nb cb) ∧ W.cell? ⟨w.heap.size, 7, none⟩ = some (.slice Al nl cl) ∧ W.cell? ⟨b, o, none⟩ = some (.int .i64 a1.op) ∧ W.cell? ⟨b, o + 1, none⟩ = some (.int .i64 a1.n) ∧ W.cell? ⟨b, o + 2, none⟩ = some (.string a1.s) ∧ W.cell? ⟨b, o + 3, none⟩ = some (.string a1.name) ∧ W.cell? ⟨b, o + 4, none⟩ = some (.string a1.src) ∧ W.cell? ⟨b, o + 5, none⟩ = some (.slice A1 m1 c1) ∧ w.heap.size < W.heap.size ∧ b < W.heap.size) (first | assumption | exact HS.out _ (by assumption) | exact HS.out _ (Below.drew (by assumption)) | ((repeat' apply And.intro) <;> first | assumption | (go_simp; done))) (first | (go_at_call 138; with_reducible refine (HR.out _ (by first | assumption | exact Below.drew (by assumption))).mono ?_; rintro x wa ⟨rfl, hbwa⟩))
 clear x0 x1 x2 x3 x4 x5 x6 x7 z0 z1 z2 z3 z4 z5 xl zl
 have HBa := Lhd hbwa
 clear hbwa
 have HP0 := Lhd (show (⟨#[117, 112, 100, 97, 116, 101, 32]⟩ ++ S1 ++ ⟨#[32, 115, 101, 116, 32]⟩ : ByteArray).data.toList = ([117, 112, 100, 97, 116, 101, 32] ++ S1.data.toList ++ [32, 115, 101, 116, 32]) from by simp [ByteArray.data_append])
 have HPl := Lhd (show (([117, 112, 100, 97, 116, 101, 32] ++ S1.data.toList ++ [32, 115, 101, 116, 32]) : List UInt8).length = 7 + S1.size + 5 from by have e : S1.size = S1.data.toList.length := rfl; simp only [List.length_append, List.length_cons, List.length_nil]; omega)
 generalize hPRE : (([117, 112, 100, 97, 116, 101, 32] ++ S1.data.toList ++ [32, 115, 101, 116, 32]) : List UInt8) = PRE at *
 have HPRE := Lhd hPRE
 clear hPRE
 go_wp2
 go_loopw [5, 6] (fun s i wr => ∃ (k : Nat) (S : ByteArray), k ≤ nc ∧ i = .int .i64 k ∧ s = .string S ∧ Hid (S.data.toList = PRE ++ joinT ((setsT d cols rest).take k)) ∧ Hid (Below w1.heap.size w1 wr)) (fun _ i _ => nc - (intOf i).toNat)
 case atStart => exact ⟨0, _, Nat.zero_le _, rfl, rfl, Lhd (by rw [HP0.out]; simp [joinT]), Lhd HBa.out⟩
 case round =>
  obtain ⟨k, S, hk, rfl, rfl, HSt, HW⟩ := hrel
  obtain ⟨x0, x1, x2, x3, x4, x5, x6, x7, xl⟩ := Hx.out _ HW.out
  have hL := Hl.out
  have hSl : S.size = 7 + S1.size + 5 + (joinT ((setsT d cols rest).take k)).length := by
   have e : S.size = S.data.toList.length := rfl
   rw [e, HSt.out, List.length_append, HPl.out]
  rcases Nat.lt_or_ge k nc with hlt | hge
  ·obtain ⟨b2, o2, c, rfl, hc2, hcat⟩ := Hcol.out k hlt
   obtain ⟨b3, o3, e, A2, m2, c2, hA3, he, hat⟩ := Hget.out (k + 1) (by omega)
   injection hA3 with hA3
   injection hA3 with e1 e2
   subst e1 e2
   rw [List.getElem?_cons_succ] at he
   have hlm : k < (setsT d cols rest).length := by have := Hcl.out; have := Hsl.out; omega
   have hjl := joinT_take_le hlm
   have hjt := joinT_take hlm
   have hge : (setsT d cols rest)[k]'hlm = c.data.toList ++ [32, 61, 32] ++ txtE d e := by
    have h1 := setsT_get (d := d) hc2 he
    exact (List.getElem?_eq_some_iff.1 h1).2
   rw [hge] at hjl hjt
   have hjl2 := hjl
   rw [List.length_append, List.length_append] at hjl2
   have e3 : ([32, 61, 32] : List UInt8).length = 3 := rfl
   have e4 : c.data.toList.length = c.size := rfl
   have HS2 := Lhd (fun W (hW : Below wr.heap.size wr W) => (show W.cell? ⟨w.heap.size, 0, none⟩ = some (.int .i64 4) ∧ W.cell? ⟨w.heap.size, 1, none⟩ = some (.string name) ∧ W.cell? ⟨w.heap.size, 2, none⟩ = some (.string src) ∧ W.cell? ⟨w.heap.size, 3, none⟩ = some (.int .i64 n) ∧ W.cell? ⟨w.heap.size, 4, none⟩ = some (.slice (some ⟨b2, o2, none⟩) nc cc) ∧ W.cell? ⟨w.heap.size, 5, none⟩ = some (.slice (some ⟨b, o, none⟩) (nc + 1) ce) ∧ W.cell? ⟨w.heap.size, 6, none⟩ = some (.slice Ab nb cb) ∧ W.cell? ⟨w.heap.size, 7, none⟩ = some (.slice Al nl cl) ∧ W.cell? ⟨b2, o2 + k, none⟩ = some (.string c) ∧ W.cell? ⟨b, o + (k + 1) * 6, none⟩ = some (.int .i64 e.op) ∧ W.cell? ⟨b, o + (k + 1) * 6 + 1, none⟩ = some (.int .i64 e.n) ∧ W.cell? ⟨b, o + (k + 1) * 6 + 2, none⟩ = some (.string e.s) ∧ W.cell? ⟨b, o + (k + 1) * 6 + 3, none⟩ = some (.string e.name) ∧ W.cell? ⟨b, o + (k + 1) * 6 + 4, none⟩ = some (.string e.src) ∧ W.cell? ⟨b, o + (k + 1) * 6 + 5, none⟩ = some (.slice A2 m2 c2) ∧ w.heap.size < W.heap.size ∧ b2 < W.heap.size ∧ b < W.heap.size from by
    obtain ⟨p0, p1, p2, p3, p4, p5, p6, p7, p8⟩ := Hx.out W (HW.out.trans (hW.mono HW.out.size))
    have hall := Hb1.out.trans ((HW.out.trans (hW.mono HW.out.size)).mono Hb1.out.size)
    obtain ⟨q0, q1⟩ := hcat W hall
    obtain ⟨r0, ⟨s0, s1, s2, s3, s4, s5⟩, _⟩ := hat W hall
    exact ⟨p0, p1, p2, p3, p4, p5, p6, p7, q1, s0, s1, s2, s3, s4, s5, p8, q0, r0⟩))
   have hT : (⟨(txtE d e).toArray⟩ : ByteArray).size = (txtE d e).length := arr_size _
   have Hc := Lhd (fun W (hW : Below wr.heap.size wr W) => (show Calls Tryz.prog 139 #[.agg #[.int .i64 e.op, .int .i64 e.n, .string e.s, .string e.name, .string e.src, .slice A2 m2 c2]] W fun y w9 => y = .returned (.string ⟨(txtE d e).toArray⟩) ∧ Below wr.heap.size wr w9 from (refExpr_any d F e _ W (hat W (Hb1.out.trans ((HW.out.trans (hW.mono HW.out.size)).mono Hb1.out.size))).2.2 (Hb.out e (List.mem_of_getElem? he)) (by omega)).mono fun _ _ ⟨h1, h2⟩ => ⟨h1, hW.trans (h2.mono hW.size)⟩))
   obtain ⟨T, hTe⟩ : ∃ T : ByteArray, (⟨(txtE d e).toArray⟩ : ByteArray) = T := ⟨_, rfl⟩
   have HT := Lhd (show T.data.toList = txtE d e from by rw [← hTe])
   rw [hTe] at Hc hT
   have Hjt := Lhd hjt
   have hrf2 : Below wr.heap.size wr wr := Below.refl _ _
   have i3 : IntKind.i64.wrap ((k : Int) + 1) = (k : Int) + 1 := by simp only [IntKind.wrap, IntKind.bits, IntKind.signed]; simp; omega
   have i4 : ((k : Int) + 1).toNat = k + 1 := by omega
   have i1 : (0 : Int) ≤ (k : Int) + 1 := by omega
   have i2 : (k : Int) + 1 < (nc : Int) + 1 := by omega
   have i5 : IntKind.i64.wrap 1 = 1 := by decide
   rcases Nat.eq_zero_or_pos k with rfl | h0
   ·rw [if_pos rfl] at hjl2 Hjt
    have i6 : (1 : Int) < (nc : Int) + 1 := by omega
    have n1 : ¬ 9223372036854775807 < S.size + c.size := by omega
    have n2 : ¬ 9223372036854775807 < S.size + c.size + 3 := by omega
    have n3 : ¬ 9223372036854775807 < S.size + c.size + 3 + T.size := by omega
    clear hge hjl hjl2 hjt he hlm hat hcat hT hTe hSl hL e3 e4 hc2
    go_upto_region 17 with (fail)
    clear x0 x1 x2 x3 x4 x5 x6 x7 xl
    obtain ⟨x0, x1, x2, x3, x4, x5, x6, x7, y0, z0, z1, z2, z3, z4, z5, xl, yl, zl⟩ := HS2.out wr hrf2
    go_region_held3 (fun W => W.cell? ⟨w.heap.size, 0, none⟩ = some (.int .i64 4) ∧ W.cell? ⟨w.heap.size, 1, none⟩ = some (.string name) ∧ W.cell? ⟨w.heap.size, 2, none⟩ = some (.string src) ∧ W.cell? ⟨w.heap.size, 3, none⟩ = some (.int .i64 n) ∧ W.cell? ⟨w.heap.size, 4, none⟩ = some (.slice (some ⟨b2, o2, none⟩) nc cc) ∧ W.cell? ⟨w.heap.size, 5, none⟩ = some (.slice (some ⟨b, o, none⟩) (nc + 1) ce) ∧ W.cell? ⟨w.heap.size, 6, none⟩ = some (.slice Ab nb cb) ∧ W.cell? ⟨w.heap.size, 7, none⟩ = some (.slice Al nl cl) ∧ W.cell? ⟨b2, o2, none⟩ = some (.string c) ∧ W.cell? ⟨b, o + 6, none⟩ = some (.int .i64 e.op) ∧ W.cell? ⟨b, o + 6 + 1, none⟩ = some (.int .i64 e.n) ∧ W.cell? ⟨b, o + 6 + 2, none⟩ = some (.string e.s) ∧ W.cell? ⟨b, o + 6 + 3, none⟩ = some (.string e.name) ∧ W.cell? ⟨b, o + 6 + 4, none⟩ = some (.string e.src) ∧ W.cell? ⟨b, o + 6 + 5, none⟩ = some (.slice A2 m2 c2) ∧ w.heap.size < W.heap.size ∧ b2 < W.heap.size ∧ b < W.heap.size) (first | assumption | exact HS2.out _ (by assumption) | exact HS2.out _ (Below.drew (by assumption)) | ((repeat' apply And.intro) <;> first | assumption | (go_simp; done))) (first | (go_at_call 139; with_reducible refine (Hc.out _ (by first | assumption | exact Below.drew (by assumption))).mono ?_; rintro x wb ⟨rfl, hbwb⟩))
    clear x0 x1 x2 x3 x4 x5 x6 x7 y0 z0 z1 z2 z3 z4 z5 xl yl zl
    all_goals
     have HBb := Lhd hbwb
     clear hbwb
     go_wp2
     go_roundw
     case rel =>
      refine ⟨0 + 1, _, by omega, by go_num, rfl, Lhd ?_, Lhd (HW.out.trans (HBb.out.mono HW.out.size))⟩
      rw [Hjt.out]
      simp [ByteArray.data_append, HSt.out, HT.out, joinT]
     case measure => simp [intOf]; omega
   ·rw [if_neg (by omega)] at hjl2 Hjt
    have n0 : ¬ 9223372036854775807 < S.size + 2 := by omega
    have n1 : ¬ 9223372036854775807 < S.size + 2 + c.size := by omega
    have n2 : ¬ 9223372036854775807 < S.size + 2 + c.size + 3 := by omega
    have n3 : ¬ 9223372036854775807 < S.size + 2 + c.size + 3 + T.size := by omega
    clear hge hjl hjl2 hjt he hlm hat hcat hT hTe hSl hL e3 e4 hc2
    go_upto_region 17 with (fail)
    clear x0 x1 x2 x3 x4 x5 x6 x7 xl
    obtain ⟨x0, x1, x2, x3, x4, x5, x6, x7, y0, z0, z1, z2, z3, z4, z5, xl, yl, zl⟩ := HS2.out wr hrf2
    go_region_held3 (fun W => W.cell? ⟨w.heap.size, 0, none⟩ = some (.int .i64 4) ∧ W.cell? ⟨w.heap.size, 1, none⟩ = some (.string name) ∧ W.cell? ⟨w.heap.size, 2, none⟩ = some (.string src) ∧ W.cell? ⟨w.heap.size, 3, none⟩ = some (.int .i64 n) ∧ W.cell? ⟨w.heap.size, 4, none⟩ = some (.slice (some ⟨b2, o2, none⟩) nc cc) ∧ W.cell? ⟨w.heap.size, 5, none⟩ = some (.slice (some ⟨b, o, none⟩) (nc + 1) ce) ∧ W.cell? ⟨w.heap.size, 6, none⟩ = some (.slice Ab nb cb) ∧ W.cell? ⟨w.heap.size, 7, none⟩ = some (.slice Al nl cl) ∧ W.cell? ⟨b2, o2 + k, none⟩ = some (.string c) ∧ W.cell? ⟨b, o + (k + 1) * 6, none⟩ = some (.int .i64 e.op) ∧ W.cell? ⟨b, o + (k + 1) * 6 + 1, none⟩ = some (.int .i64 e.n) ∧ W.cell? ⟨b, o + (k + 1) * 6 + 2, none⟩ = some (.string e.s) ∧ W.cell? ⟨b, o + (k + 1) * 6 + 3, none⟩ = some (.string e.name) ∧ W.cell? ⟨b, o + (k + 1) * 6 + 4, none⟩ = some (.string e.src) ∧ W.cell? ⟨b, o + (k + 1) * 6 + 5, none⟩ = some (.slice A2 m2 c2) ∧ w.heap.size < W.heap.size ∧ b2 < W.heap.size ∧ b < W.heap.size) (first | assumption | exact HS2.out _ (by assumption) | exact HS2.out _ (Below.drew (by assumption)) | ((repeat' apply And.intro) <;> first | assumption | (go_simp; done))) (first | (go_at_call 139; with_reducible refine (Hc.out _ (by first | assumption | exact Below.drew (by assumption))).mono ?_; rintro x wb ⟨rfl, hbwb⟩))
    clear x0 x1 x2 x3 x4 x5 x6 x7 y0 z0 z1 z2 z3 z4 z5 xl yl zl
    all_goals
     have HBb := Lhd hbwb
     clear hbwb
     go_wp2
     go_roundw
     case rel =>
      refine ⟨k + 1, _, by omega, by go_num, rfl, Lhd ?_, Lhd (HW.out.trans (HBb.out.mono HW.out.size))⟩
      rw [Hjt.out]
      simp [ByteArray.data_append, HSt.out, HT.out]
     case measure => simp [intOf]; omega
  ·obtain rfl : k = nc := Nat.le_antisymm hk hge
   have e1 : (setsT d cols rest).take k = setsT d cols rest := List.take_of_length_le (by have := Hcl.out; have := Hsl.out; omega)
   rw [e1] at HSt hSl
   have n1 : ¬ 9223372036854775807 < S.size + 1 := by omega
   clear hSl hL
   go_wp2
   go_ret
   exact ⟨ret_str (Array.ext' (by simp [ByteArray.data_append, HSt.out, ← HPRE.out])), Hb1.out.trans (HW.out.mono Hb1.out.size)⟩
theorem join_texts {F : Nat → Prop} {d n c : Nat} {w : World} {A : Option Addr} {es : List Ex} (hx : ExsAt F d w A n c es) (hb : ∀ e ∈ es, builtE d e = true) (hl : (joinT (es.map (txtE d))).length ≤ 1000000000) :
  RTx w 137 #[.slice A n c] ⟨(joinT (es.map (txtE d))).toArray⟩ := fun W hW => join_any F d es A n c W (ExsAt.below hx hW) hb hl
theorem block_texts {F : Nat → Prop} {d n c k : Nat} {w : World} {A : Option Addr} {xs : List St} {B : ByteArray} (hS : RefSC F d) (hx : StsAt F d w A n c xs) (hb : ∀ x ∈ xs, builtS d x = true) (hB : B.data.toList = indT k) (hk : k + d ≤ 999) (hl : (blockT (txtS d) k xs).length ≤ 1000000000) :
  RTx w 43 #[.slice A n c, .string B] ⟨(blockT (txtS d) k xs).toArray⟩ := fun W hW => rblock_any F d hS xs A n c k B W (StsAt.below hx hW) hb hB hk hl
theorem size_le {s : ByteArray} (h : s.data.toList.length ≤ 16) : s.size ≤ 1000000 := by
 have e : s.data.toList.length = s.size := rfl
 omega
theorem rows_le {d : Nat} {a : Ex} {name src : ByteArray} (h : (rowsT name src a.op a.n (txtE d a)).length ≤ 999999995) : (txtE d a).length ≤ 1000000000 := by
 have := rowsT_ge (d := d) (a := a) (name := name) (src := src)
 omega
theorem decS_small {n : Int} (h0 : 0 ≤ n) (h1 : n ≤ 100000) : (decS n).length ≤ 19 := decS_len (by unfold okI; omega)
theorem refPrint_int (n : Int) (h0 : 0 ≤ n) (h1 : n ≤ 100000) (W : World) : Calls Tryz.prog 42 #[.int .i64 n] W fun e w' => e = .returned (.string ⟨(decS n).toArray⟩) ∧ Below W.heap.size W w' := by
  obtain ⟨N, rfl⟩ : ∃ N : Nat, n = (N : Int) := ⟨n.toNat, by omega⟩
  exact refPrint_any N (by have : (10 : Nat) ^ 19 = 10000000000000000000 := by decide
                           omega) W
theorem refStmt_any : ∀ (d : Nat) (F : Nat → Prop), RefSC F d := by
 intro d
 induction d with
 | zero => intro F x row k B w hx; exact hx.elim
 | succ d ih =>
  intro F x row k B w hx hb hB hk hlen
  obtain ⟨op, name, src, n, cols, exprs, body, els⟩ := x
  obtain ⟨hs, he, hbo, hel⟩ := builtS_parts hb
  obtain ⟨_, _, _, _, Ac, nc, cc, Ae, ne, ce, Ab, nb, cb, Al, nl, cl, rfl, hxc, hxe, hxb, hxl⟩ := hx.open_
  have hxc : LsAt F w 1 SRow Ac nc cc cols := hxc
  have hxe : ExsAt F d w Ae ne ce exprs := hxe
  have hxb : StsAt F d w Ab nb cb body := hxb
  have hxl : StsAt F d w Al nl cl els := hxl
  have hen := LsAt.len hxe
  have hcn := LsAt.len hxc
  have hbn := LsAt.len hxb
  have hln := LsAt.len hxl
  have hE := refExpr_any d F
  have hn1 := size_le hs.name_
  have hn2 := size_le hs.src_
  rw [txtS_op] at hlen ⊢
  by_cases h6 : op = 6
  ·subst h6
   rw [if_pos rfl] at hlen ⊢
   have h1 := hs.only (by simp)
   obtain ⟨a, rfl⟩ := List.length_eq_one_iff.1 h1
   obtain ⟨b, o, A1, m1, c1, rfl, hFb, hbl, hS, hxa⟩ := first_at hxe
   have e1 : ne = 1 := by simp at hen; omega
   subst e1
   have hl0 : els = [] := List.eq_nil_of_length_eq_zero (hs.els (by decide))
   subst hl0
   have hl1 : (rowsT name src a.op a.n (txtE d a)).length ≤ 999999995 ∧ (blockT (txtS d) k body).length ≤ 1000000000 := by
    simp only [rowsX, List.length_append, List.length_cons, List.length_nil] at hlen
    omega
   have hD := rows_texts hE name src hxa (he a (by simp)) (rows_le hl1.1) hn1 hn2
   have hBt := block_texts (k := k) (xs := body) (ih F) hxb hbo hB (by omega) hl1.2
   by_cases hn : 0 < n
   ·rw [if_pos hn] at hlen ⊢
    have h := rst_6l name src n Ac Ab Al nc cc nb cb nl cl B b o ce a A1 m1 c1 _ _ ⟨(decS n).toArray⟩ w hbl hS hD (by rw [arr_size]; omega) hBt (by rw [arr_size]; exact hl1.2) hn (fun W => refPrint_int n (by omega) (by have := hs.n1; omega) W) (by rw [arr_size]; have := decS_small (n := n) (by omega) (by have := hs.n1; omega); omega)
    simpa [rowsX, St.op, St.name, St.src, St.n] using h
   ·rw [if_neg hn] at hlen ⊢
    have hn0 : n = 0 := by have := hs.n0; omega
    subst hn0
    have h := rst_6 name src Ac Ab Al nc cc nb cb nl cl B b o ce a A1 m1 c1 _ _ w hbl hS hD (by rw [arr_size]; omega) hBt (by rw [arr_size]; exact hl1.2)
    simpa [rowsX, St.op, St.name, St.src, St.n] using h
  ·rw [if_neg h6] at hlen ⊢
   by_cases h7 : op = 7
   ·subst h7
    rw [if_pos rfl] at hlen ⊢
    have h1 := hs.only (by simp)
    obtain ⟨a, rfl⟩ := List.length_eq_one_iff.1 h1
    obtain ⟨b, o, A1, m1, c1, rfl, hFb, hbl, hS, hxa⟩ := first_at hxe
    have e1 : ne = 1 := by simp at hen; omega
    subst e1
    have hl1 : (txtE d a).length ≤ 1000000000 ∧ (blockT (txtS d) k body).length ≤ 1000000000 := by
     simp only [firstT, List.length_append, List.length_cons, List.length_nil] at hlen
     omega
    have hD := expr_texts hE hxa (he a (by simp)) hl1.1
    have hBt := block_texts (k := k) (xs := body) (ih F) hxb hbo hB (by omega) hl1.2
    rcases els with _ | ⟨e0, er⟩
    ·rw [if_pos rfl] at hlen ⊢
     have h := rst_7 name src n Ac Ab Al nc cc nb cb nl cl B b o ce a A1 m1 c1 _ _ w hbl hS hD (by rw [arr_size]; exact hl1.1) hBt (by rw [arr_size]; exact hl1.2) (by simpa using hln.symm)
     simpa [firstT, St.op, St.name, St.src, St.n] using h
    ·rw [if_neg (by simp)] at hlen ⊢
     have hl2 : (blockT (txtS d) k (e0 :: er)).length ≤ 1000000000 := by
      simp only [List.length_append, List.length_cons, List.length_nil] at hlen
      omega
     have hBt2 := block_texts (k := k) (xs := e0 :: er) (ih F) hxl hel hB (by omega) hl2
     have h := rst_7e name src n Ac Ab Al nc cc nb cb nl cl B b o ce a A1 m1 c1 _ _ _ w hbl hS hD (by rw [arr_size]; exact hl1.1) hBt (by rw [arr_size]; exact hl1.2) hBt2 (by rw [arr_size]; exact hl2) (by rw [← hln]; simp)
     simpa [firstT, St.op, St.name, St.src, St.n] using h
   ·rw [if_neg h7] at hlen ⊢
    have hj : (plainT d op name src cols exprs).length ≤ 999999999 := by
     simp only [List.length_append, List.length_cons, List.length_nil] at hlen
     omega
    unfold plainT at hj hlen ⊢
    rcases hs.ops with rfl | rfl | rfl | rfl | rfl | rfl | rfl | rfl | rfl | rfl
    ·have hjl : (joinT (exprs.map (txtE d))).length ≤ 1000000000 := by simp at hj; omega
     have h := rst_1 name src n Ac Ab Al nc cc nb cb nl cl B Ae ne ce _ w (join_texts (es := exprs) hxe he hjl) (by rw [arr_size]; exact hjl) hn1
     simpa [St.op, St.name, St.src, St.n] using h
    ·have hjl : (joinT (exprs.map (txtE d))).length ≤ 1000000000 := by simp at hj; omega
     have h := rst_2 name src n Ac Ab Al nc cc nb cb nl cl B Ae ne ce _ w (join_texts (es := exprs) hxe he hjl) (by rw [arr_size]; exact hjl) hn1
     simpa [St.op, St.name, St.src, St.n] using h
    ·have hjl : (joinT (exprs.map (txtE d))).length ≤ 1000000000 := by simp at hj; omega
     have h := rst_3 name src n Ac Ab Al nc cc nb cb nl cl B Ae ne ce _ w (join_texts (es := exprs) hxe he hjl) (by rw [arr_size]; exact hjl) hn2
     simpa [St.op, St.name, St.src, St.n] using h
    ·obtain ⟨h4, h41⟩ := hs.four rfl
     rcases exprs with _ | ⟨a, r⟩
     ·simp at h4
     ·obtain ⟨b, o, A1, m1, c1, rfl, hFb, hbl, hS, hxa⟩ := first_at hxe
      have e1 : ne = nc + 1 := by omega
      subst e1
      have h8 := hs.cols8
      have hl1 : (rowsT name src a.op a.n (txtE d a)).length ≤ 999999995 := by simp [rowsX] at hj; omega
      have h := rst_4 name src n Ac Ab Al nc cc nb cb nl cl B F d cols r b o ce a A1 m1 c1 _ w hbl hS (rows_texts hE name src hxa (he a (by simp)) (rows_le hl1) hn1 hn2) (by rw [arr_size]; omega) hxc hxe (fun e hm => he e (by simp [hm])) (by omega) (by simpa [rowsX] using hlen)
      simpa [rowsX, St.op, St.name, St.src, St.n] using h
    ·have h1 := hs.only (by simp)
     obtain ⟨a, rfl⟩ := List.length_eq_one_iff.1 h1
     obtain ⟨b, o, A1, m1, c1, rfl, hFb, hbl, hS, hxa⟩ := first_at hxe
     have e1 : ne = 1 := by simp at hen; omega
     subst e1
     have hl1 : (rowsT name src a.op a.n (txtE d a)).length ≤ 999999995 := by simp [rowsX] at hj; omega
     have h := rst_5 name src n Ac Ab Al nc cc nb cb nl cl B b o ce a A1 m1 c1 _ w hbl hS (rows_texts hE name src hxa (he a (by simp)) (rows_le hl1) hn1 hn2) (by rw [arr_size]; omega)
     simpa [rowsX, St.op, St.name, St.src, St.n] using h
    ·exact absurd rfl h6
    ·exact absurd rfl h7
    ·have hjl : (joinT (exprs.map (txtE d))).length ≤ 1000000000 := by simp at hj; omega
     have h := rst_8 name src n Ac Ab Al nc cc nb cb nl cl B Ae ne ce _ w (join_texts (es := exprs) hxe he hjl) (by rw [arr_size]; exact hjl) hn2
     simpa [St.op, St.name, St.src, St.n] using h
    ·have hjl : (joinT (exprs.map (txtE d))).length ≤ 1000000000 := by simp at hj; omega
     have h := rst_9 name src n Ac Ab Al nc cc nb cb nl cl B Ae ne ce _ w (join_texts (es := exprs) hxe he hjl) (by rw [arr_size]; exact hjl)
     simpa [St.op, St.name, St.src, St.n] using h
    ·have hjl : (joinT (exprs.map (txtE d))).length ≤ 1000000000 := by simp at hj; omega
     have h := rst_10 name src n Ac Ab Al nc cc nb cb nl cl B Ae ne ce _ w (join_texts (es := exprs) hxe he hjl) (by rw [arr_size]; exact hjl)
     simpa [St.op, St.name, St.src, St.n] using h
end Go.Proofs.YtmgldjpdhpopnaaGreatDoor
