/- Parts of this proof, one behind the other: PrsF, PrsH, PrsI. -/
import Derived.Test.YtmgldjpdhpopnaaGreatDoorPp40
import Derived.Test.YtmgldjpdhpopnaaGreatDoorPp37
set_option maxRecDepth 1000000
set_option maxHeartbeats 40000000
namespace Go.Proofs.YtmgldjpdhpopnaaGreatDoor
open Go.RowKit Go.Afx
theorem first_at {F : Nat → Prop} {d n c : Nat} {w : World} {A : Option Addr} {a : Ex} {r : List Ex} (h : ExsAt F d w A n c (a :: r)) : ∃ b o A1 m1 c1, A = some ⟨b, o, none⟩ ∧ F b ∧ b < w.heap.size ∧ Six w b o a A1 m1 c1 ∧ ExAt F d w (rowOf a A1 m1 c1) a := by
 have hl := LsAt.len h
 obtain ⟨b, o, r', e, hA, hb, hFb, he, _, hp, hc⟩ := LsAt.get h (k := 0) (by rw [← hl]; simp)
 simp at he
 subst he
 obtain ⟨A1, m1, c1, rfl⟩ := ex_row hp
 exact ⟨b, o, A1, m1, c1, hA, hFb, hb, ⟨by simpa using hc 0 _ rfl, by simpa using hc 1 _ rfl, by simpa using hc 2 _ rfl, by simpa using hc 3 _ rfl, by simpa using hc 4 _ rfl, by simpa using hc 5 _ rfl⟩, hp⟩
theorem list_does {F : Nat → Prop} {d g n c : Nat} {w : World} {A : Option Addr} {es : List Ex} (hx : ExsAt F d w A n c es) (hb : ∀ e ∈ es, builtE d e = true) (hF : ∀ k, F k → k < g) (hm : HasMax w) (hg : 0 < g) :
  Does g w 201 #[.pointer (some ⟨g, 0, none⟩), .slice A n c] (joinT (es.map (txtE d))) (es.any (nlE d)) :=
 fun W t br hW h hl => list_any F d es A n c g t br W (ExsAt.kept hx ⟨hW.1.size, fun k _ hf => hW.1.block k (hF k hf)⟩) hb hF h (hm.below hg hW.1) hg hl
theorem block_does {F : Nat → Prop} {d g n c k : Nat} {w : World} {A : Option Addr} {xs : List St} (hS : StmtC F d) (hx : StsAt F d w A n c xs) (hb : ∀ x ∈ xs, builtS d x = true) (hF : ∀ k, F k → k < g) (hm : HasMax w) (hg : 0 < g) (hk : k + d ≤ 999) :
  Does g w 83 #[.pointer (some ⟨g, 0, none⟩), .slice A n c, .int .i64 k] (blockT (txtS d) k xs) (xs.any (nlS d)) :=
 fun W t br hW h hl => block_any F d hS xs A n c k g t br W (StsAt.kept hx ⟨hW.1.size, fun k _ hf => hW.1.block k (hF k hf)⟩) hb hF h (hm.below hg hW.1) hg hk hl
theorem plain_does {F : Nat → Prop} {d g : Nat} {w : World} {op n : Int} {name src : ByteArray} {cols : List ByteArray} {es : List Ex} {Ac Ae Ab Al : Option Addr} {nc cc ne ce nb cb nl cl nB nL : Nat} (hg1 : ShapeG op name src n cols es.length nB nL) (h6 : op ≠ 6) (h7 : op ≠ 7) (hc : LsAt F w 1 SRow Ac nc cc cols) (hx : ExsAt F d w Ae ne ce es) (hb : ∀ e ∈ es, builtE d e = true) (hF : ∀ k, F k → k < g) (hm : HasMax w) (hg : 0 < g) :
  Does g w 173 #[.pointer (some ⟨g, 0, none⟩), .agg #[.int .i64 op, .string name, .string src, .int .i64 n, .slice Ac nc cc, .slice Ae ne ce, .slice Ab nb cb, .slice Al nl cl]] (plainT d op name src cols es) (es.any (nlE d)) := by
 intro W t br hW h hl
 have hk : Kept F w W := ⟨hW.1.size, fun k _ hf => hW.1.block k (hF k hf)⟩
 have hc := hc.kept hk
 have hx := ExsAt.kept hx hk
 have hm := hm.below hg hW.1
 have hld := list_does hx hb hF hm hg
 have hE := expr_any d F
 have hen := LsAt.len hx
 have hcn := LsAt.len hc
 unfold plainT at hl ⊢
 rcases hg1.ops with rfl | rfl | rfl | rfl | rfl | rfl | rfl | rfl | rfl | rfl
 ·have h := plain_1 name src n Ac Ab Al nc cc nb cb nl cl Ae ne ce _ _ g t br W h hld (by simpa using hl)
  simpa using h
 ·have h := plain_2 name src n Ac Ab Al nc cc nb cb nl cl Ae ne ce _ _ g t br W h hld (by simpa using hl)
  simpa using h
 ·have h := plain_3 name src n Ac Ab Al nc cc nb cb nl cl Ae ne ce _ _ g t br W h hld (by simpa using hl)
  simpa using h
 ·obtain ⟨h4, h41⟩ := hg1.four rfl
  rcases es with _ | ⟨a, r⟩
  ·simp at h4
  ·obtain ⟨b, o, A1, m1, c1, rfl, hFb, hbl, hS, hxa⟩ := first_at hx
   have hba := hb a (by simp)
   have e1 : ne = nc + 1 := by omega
   subst e1
   have h8 := hg1.cols8
   have h := plain_4 name src n Ac Ab Al nc cc nb cb nl cl F d cols r b o ce a A1 m1 c1 _ _ g t br W h hc hx (fun e he => hb e (by simp [he])) hF hm hg (by omega) (hF b hFb) hS (rows_does hE name src hxa hba hF hm hg) (by simpa [rowsX] using hl)
   simpa [rowsX] using h
 ·have h1 := hg1.only (by simp)
  obtain ⟨a, rfl⟩ := List.length_eq_one_iff.1 h1
  obtain ⟨b, o, A1, m1, c1, rfl, hFb, hbl, hS, hxa⟩ := first_at hx
  have h := plain_5 name src n Ac Ab Al nc cc nb cb nl cl b o ne ce a A1 m1 c1 _ _ g t br W h (hF b hFb) (by simp at hen; omega) hS (rows_does hE name src hxa (hb a (by simp)) hF hm hg) (by simpa [rowsX] using hl)
  simpa [rowsX] using h
 ·exact absurd rfl h6
 ·exact absurd rfl h7
 ·have h := plain_8 name src n Ac Ab Al nc cc nb cb nl cl Ae ne ce _ _ g t br W h hld (by simpa using hl)
  simpa using h
 ·have h := plain_9 name src n Ac Ab Al nc cc nb cb nl cl Ae ne ce _ _ g t br W h hld (by simpa using hl)
  simpa using h
 ·have h := plain_10 name src n Ac Ab Al nc cc nb cb nl cl Ae ne ce _ _ g t br W h hld (by simpa using hl)
  simpa using h
theorem nlS_op {d : Nat} {op : Int} {name src : ByteArray} {n : Int} {cols : List ByteArray} {exprs : List Ex} {body els : List St} : nlS (d + 1) (.mk op name src n cols exprs body els) = (exprs.any (nlE d) || body.any (nlS d) || els.any (nlS d)) := by rw [nlS]; rfl
theorem stmt_any : ∀ (d : Nat) (F : Nat → Prop), StmtC F d := by
 intro d
 induction d with
 | zero => intro F x row g t br w k hx; exact hx.elim
 | succ d ih =>
  intro F x row g t br w k hx hb hF h hm hg hk hlen
  obtain ⟨op, name, src, n, cols, exprs, body, els⟩ := x
  obtain ⟨hs, he, hbo, hel⟩ := builtS_parts hb
  obtain ⟨_, _, _, _, Ac, nc, cc, Ae, ne, ce, Ab, nb, cb, Al, nl, cl, rfl, hxc, hxe, hxb, hxl⟩ := hx.open_
  have hxc : LsAt F w 1 SRow Ac nc cc cols := hxc
  have hxe : ExsAt F d w Ae ne ce exprs := hxe
  have hxb : StsAt F d w Ab nb cb body := hxb
  have hxl : StsAt F d w Al nl cl els := hxl
  have hen := LsAt.len hxe
  have hbn := LsAt.len hxb
  have hln := LsAt.len hxl
  have hB := block_does (k := k) (ih F) hxb hbo hF hm hg (by omega)
  have hB2 := block_does (k := k) (ih F) hxl hel hF hm hg (by omega)
  have hE := expr_any d F
  rw [txtS_op] at hlen ⊢
  rw [nlS_op]
  by_cases h6 : op = 6
  ·subst h6
   rw [if_pos rfl] at hlen ⊢
   have h1 := hs.only (by simp)
   obtain ⟨a, rfl⟩ := List.length_eq_one_iff.1 h1
   obtain ⟨b, o, A1, m1, c1, rfl, hFb, hbl, hS, hxa⟩ := first_at hxe
   have hl0 : els = [] := List.eq_nil_of_length_eq_zero (hs.els (by decide))
   subst hl0
   have hD := rows_does hE name src hxa (he a (by simp)) hF hm hg
   by_cases hn : 0 < n
   ·rw [if_pos hn] at hlen ⊢
    have h := stmt_6l name src n Ac Ab Al nc cc nb cb nl cl k _ _ b o ne ce a A1 m1 c1 _ _ g t br w h (hF b hFb) (by simp at hen; omega) hS hD hB hn hs.n1 (by simpa [rowsX] using hlen)
    simpa [rowsX, Bool.or_assoc, St.op, St.name, St.src, St.n] using h
   ·rw [if_neg hn] at hlen ⊢
    have hn0 : n = 0 := by have := hs.n0; omega
    have h := stmt_6 name src n Ac Ab Al nc cc nb cb nl cl k _ _ b o ne ce a A1 m1 c1 _ _ g t br w h (hF b hFb) (by simp at hen; omega) hS hD hB hn0 (by simpa [rowsX] using hlen)
    simpa [rowsX, Bool.or_assoc, St.op, St.name, St.src, St.n] using h
  ·rw [if_neg h6] at hlen ⊢
   by_cases h7 : op = 7
   ·subst h7
    rw [if_pos rfl] at hlen ⊢
    have h1 := hs.only (by simp)
    obtain ⟨a, rfl⟩ := List.length_eq_one_iff.1 h1
    obtain ⟨b, o, A1, m1, c1, rfl, hFb, hbl, hS, hxa⟩ := first_at hxe
    have hD := expr_does hE hxa (he a (by simp)) hF hm hg
    rcases els with _ | ⟨e0, er⟩
    ·rw [if_pos rfl] at hlen ⊢
     have h := stmt_7 name src n Ac Ab Al nc cc nb cb nl cl k _ _ b o ne ce a A1 m1 c1 _ _ g t br w h (hF b hFb) (by simp at hen; omega) hS hD hB (by simpa using hln.symm) (by simpa [firstT] using hlen)
     simpa [firstT, Bool.or_assoc, St.op, St.name, St.src, St.n] using h
    ·rw [if_neg (by simp)] at hlen ⊢
     have h := stmt_7e name src n Ac Ab Al nc cc nb cb nl cl k _ _ _ _ b o ne ce a A1 m1 c1 _ _ g t br w h (hF b hFb) (by simp at hen; omega) hS hD hB hB2 (by rw [← hln]; simp) (by simpa [firstT] using hlen)
     simpa [firstT, Bool.or_assoc, St.op, St.name, St.src, St.n] using h
   ·rw [if_neg h7] at hlen ⊢
    have hb0 : body = [] := List.eq_nil_of_length_eq_zero (hs.body h6 h7)
    have hl0 : els = [] := List.eq_nil_of_length_eq_zero (hs.els h7)
    subst hb0 hl0
    have hD := plain_does (Ab := Ab) (Al := Al) (nb := nb) (cb := cb) (nl := nl) (cl := cl) hs h6 h7 hxc hxe he hF hm hg
    have h := stmt_plain name src n Ac Ab Al nc cc nb cb nl cl op k Ae ne ce _ _ g t br w h h6 h7 hD (by simpa using hlen)
    simpa [St.op, St.name, St.src, St.n] using h
theorem exs_below {F : Nat → Prop} {d n c : Nat} {w : World} {A : Option Addr} {es : List Ex} (h : ExsAt F d w A n c es) {k : Nat} (hk : k < n) :
  ∃ b o e A2 m2 c2, A = some ⟨b, o, none⟩ ∧ es[k]? = some e ∧ ∀ W, Below w.heap.size w W → b < W.heap.size ∧ Six W b (o + k * 6) e A2 m2 c2 ∧ ExAt F d W (rowOf e A2 m2 c2) e := by
 obtain ⟨b, o, r, e, hA, hb, hFb, he, hl, hp, hc⟩ := LsAt.get h hk
 obtain ⟨A2, m2, c2, rfl⟩ := ex_row hp
 exact ⟨b, o, e, A2, m2, c2, hA, he, fun W hW => ⟨Nat.lt_of_lt_of_le hb hW.size, Six.below ⟨by simpa using hc 0 _ rfl, hc 1 _ rfl, hc 2 _ rfl, hc 3 _ rfl, hc 4 _ rfl, hc 5 _ rfl⟩ hb hW, hp.below hW⟩⟩
theorem arr_eq (l : List UInt8) : (⟨l.toArray⟩ : ByteArray).data.toList = l := rfl
theorem join_any (F : Nat → Prop) (d : Nat) (es : List Ex) (A : Option Addr) (n c : Nat) (w : World) (hx : ExsAt F d w A n c es) (hb : ∀ e ∈ es, builtE d e = true) (hlen : (joinT (es.map (txtE d))).length ≤ 1000000000) :
  Calls Tryz.prog 137 #[.slice A n c] w fun e' w' => e' = .returned (.string ⟨(joinT (es.map (txtE d))).toArray⟩) ∧ Below w.heap.size w w' := by
 have hn := LsAt.n_le hx
 have hne := LsAt.len hx
 have Hget := Lhd (fun k (hk : k < n) => exs_below hx hk)
 have Hb := Lhd hb
 have Hlen := Lhd hlen
 clear hx hb hlen
 go_enter Tryz.func137, Tryz.ntmps137
 go_wp2
 go_loopw [3, 4] (fun s i wr => ∃ (k : Nat) (S : ByteArray), k ≤ n ∧ i = .int .i64 k ∧ s = .string S ∧ Hid (S.data.toList = joinT ((es.map (txtE d)).take k)) ∧ Hid (Below w.heap.size w wr)) (fun _ i _ => n - (intOf i).toNat)
 case atStart => exact ⟨0, ⟨#[]⟩, Nat.zero_le _, rfl, rfl, Lhd rfl, Lhd (Below.refl _ _)⟩
 case round =>
  obtain ⟨k, S, hk, rfl, rfl, HS, HW⟩ := hrel
  rcases Nat.lt_or_ge k n with hlt | hge
  ·obtain ⟨b, o, e, A2, m2, c2, rfl, he, hat⟩ := Hget.out k hlt
   obtain ⟨hbl, hS, hxe⟩ := hat _ HW.out
   obtain ⟨z0, z1, z2, z3, z4, z5⟩ := hS
   have hlm : k < (es.map (txtE d)).length := by rw [List.length_map]; omega
   have hjl := joinT_take_le hlm
   have hjt := joinT_take hlm
   have hge : (es.map (txtE d))[k]'hlm = txtE d e := by
    obtain ⟨h1, h2⟩ := List.getElem?_eq_some_iff.1 he
    rw [List.getElem_map, h2]
   rw [hge] at hjl hjt
   have hSl : S.size = (joinT ((es.map (txtE d)).take k)).length := by rw [← HS.out]; rfl
   have hT : (⟨(txtE d e).toArray⟩ : ByteArray).size = (txtE d e).length := arr_size _
   have Hc := Lhd (refExpr_any d F e _ wr hxe (Hb.out e (List.mem_of_getElem? he)) (by have := Hlen.out; omega))
   obtain ⟨T, hTe⟩ : ∃ T : ByteArray, (⟨(txtE d e).toArray⟩ : ByteArray) = T := ⟨_, rfl⟩
   have HT := Lhd (show T.data.toList = txtE d e from by rw [← hTe])
   rw [hTe] at Hc hT
   have Hjt := Lhd hjt
   have hL := Hlen.out
   rcases Nat.eq_zero_or_pos k with rfl | h0
   ·rw [if_pos rfl] at hjl Hjt
    simp only [Nat.zero_mul, Nat.add_zero] at z0 z1 z2 z3 z4 z5
    have n1 : ¬ 9223372036854775807 < S.size + T.size := by omega
    clear hge hjl hjt he hlm hxe hat hSl hT hTe hL
    go_wp2_with (go_at_call 139; refine Hc.out.mono ?_; rintro x w3 ⟨rfl, hb3⟩)
    have Hb3 := Lhd (HW.out.trans (hb3.mono HW.out.size))
    clear hb3
    go_roundw
    case rel =>
     refine ⟨0 + 1, _, by omega, by go_num, rfl, Lhd ?_, Lhd Hb3.out⟩
     rw [Hjt.out, ByteArray.data_append, Array.toList_append, HS.out, HT.out]
     rfl
    case measure => simp [intOf]; omega
   ·rw [if_neg (by omega)] at hjl Hjt
    have n1 : ¬ 9223372036854775807 < S.size + 2 := by omega
    have n2 : ¬ 9223372036854775807 < S.size + 2 + T.size := by omega
    clear hge hjl hjt he hlm hxe hat hSl hT hTe hL
    go_wp2_with (go_at_call 139; refine Hc.out.mono ?_; rintro x w3 ⟨rfl, hb3⟩)
    have Hb3 := Lhd (HW.out.trans (hb3.mono HW.out.size))
    clear hb3
    go_roundw
    case rel =>
     refine ⟨k + 1, _, by omega, by go_num, rfl, Lhd ?_, Lhd Hb3.out⟩
     rw [Hjt.out]
     simp [ByteArray.data_append, HS.out, HT.out]
    case measure => simp [intOf]; omega
  ·obtain rfl : k = n := Nat.le_antisymm hk hge
   have e1 : (es.map (txtE d)).take k = es.map (txtE d) := List.take_of_length_le (by rw [List.length_map]; omega)
   rw [e1] at HS
   go_wp2
   go_ret
   exact ⟨ret_str (Array.ext' HS.out), HW.out⟩
def RefSC (F : Nat → Prop) (d : Nat) : Prop := ∀ (x : St) (row : List Value) (k : Nat) (B : ByteArray) (w : World), StAt F d w row x → builtS d x = true → B.data.toList = indT k → k + d ≤ 1000 → (txtS d k x).length ≤ 1000000000 →
 Calls Tryz.prog 85 #[.agg row.toArray, .string B] w fun e' w' => e' = .returned (.string ⟨(txtS d k x).toArray⟩) ∧ Below w.heap.size w w'
theorem sts_below {F : Nat → Prop} {d n c : Nat} {w : World} {A : Option Addr} {xs : List St} (h : StsAt F d w A n c xs) {k : Nat} (hk : k < n) :
  ∃ b o x Ac nc cc Ae ne ce Ab nb cb Al nl cl, A = some ⟨b, o, none⟩ ∧ xs[k]? = some x ∧ ∀ W, Below w.heap.size w W → (b < W.heap.size ∧ W.cell? ⟨b, o + k * 8, none⟩ = some (.int .i64 x.op) ∧ W.cell? ⟨b, o + k * 8 + 1, none⟩ = some (.string x.name) ∧ W.cell? ⟨b, o + k * 8 + 2, none⟩ = some (.string x.src) ∧ W.cell? ⟨b, o + k * 8 + 3, none⟩ = some (.int .i64 x.n) ∧ W.cell? ⟨b, o + k * 8 + 4, none⟩ = some (.slice Ac nc cc) ∧ W.cell? ⟨b, o + k * 8 + 5, none⟩ = some (.slice Ae ne ce) ∧ W.cell? ⟨b, o + k * 8 + 6, none⟩ = some (.slice Ab nb cb) ∧ W.cell? ⟨b, o + k * 8 + 7, none⟩ = some (.slice Al nl cl)) ∧
   StAt F d W [.int .i64 x.op, .string x.name, .string x.src, .int .i64 x.n, .slice Ac nc cc, .slice Ae ne ce, .slice Ab nb cb, .slice Al nl cl] x := by
 obtain ⟨b, o, r, x, hA, hb, hFb, hx, hl, hp, hc⟩ := LsAt.get h hk
 obtain ⟨Ac, nc, cc, Ae, ne, ce, Ab, nb, cb, Al, nl, cl, rfl⟩ := st_row hp
 have g2 : ∀ (W : World), Below w.heap.size w W → ∀ j u, ([.int .i64 x.op, .string x.name, .string x.src, .int .i64 x.n, .slice Ac nc cc, .slice Ae ne ce, .slice Ab nb cb, .slice Al nl cl] : List Value)[j]? = some u → W.cell? ⟨b, o + k * 8 + j, none⟩ = some u := fun W hW j u hj => (hW.cell (p := ⟨b, o + k * 8 + j, none⟩) hb).trans (hc j u hj)
 exact ⟨b, o, x, Ac, nc, cc, Ae, ne, ce, Ab, nb, cb, Al, nl, cl, hA, hx, fun W hW => ⟨⟨Nat.lt_of_lt_of_le hb hW.size, by simpa using g2 W hW 0 _ rfl, g2 W hW 1 _ rfl, g2 W hW 2 _ rfl, g2 W hW 3 _ rfl, g2 W hW 4 _ rfl, g2 W hW 5 _ rfl, g2 W hW 6 _ rfl, g2 W hW 7 _ rfl⟩, hp.below hW⟩⟩
theorem ind_more {B : ByteArray} {k : Nat} (h : B.data.toList = indT k) : (B ++ ⟨#[32, 32]⟩ : ByteArray).data.toList = indT (k + 1) := by
 rw [ByteArray.data_append, Array.toList_append, h]
 unfold indT
 have e : (⟨#[32, 32]⟩ : ByteArray).data.toList = List.replicate 2 32 := rfl
 rw [e, List.replicate_append_replicate]
 rfl
theorem rblock_any (F : Nat → Prop) (d : Nat) (hS : RefSC F d) (xs : List St) (A : Option Addr) (n c k : Nat) (B : ByteArray) (w : World) (hx : StsAt F d w A n c xs) (hb : ∀ x ∈ xs, builtS d x = true) (hB : B.data.toList = indT k) (hk : k + d ≤ 999) (hlen : (blockT (txtS d) k xs).length ≤ 1000000000) :
  Calls Tryz.prog 43 #[.slice A n c, .string B] w fun e' w' => e' = .returned (.string ⟨(blockT (txtS d) k xs).toArray⟩) ∧ Below w.heap.size w w' := by
 have hn := LsAt.n_le hx
 have hne := LsAt.len hx
 rcases Nat.eq_zero_or_pos n with rfl | hp
 ·obtain rfl : xs = [] := List.eq_nil_of_length_eq_zero hne
  clear hx hb hS hlen hB hk
  go_enter Tryz.func43, Tryz.ntmps43
  go_wp2
  go_ret
  exact ⟨rfl, Below.refl _ _⟩
 ·have hz : ((n : Int) == 0) = false := by simp; omega
  have hnil : xs ≠ [] := by intro e; rw [e] at hne; simp at hne; omega
  have hbT : blockT (txtS d) k xs = [123, 10] ++ linesT (txtS d) k xs ++ indT k ++ [125] := by unfold blockT linesT; rw [if_neg hnil]
  rw [hbT] at hlen ⊢
  have hBs : B.size = 2 * k := by
   have e : B.size = B.data.toList.length := rfl
   rw [e, hB, indT_len]
  have Hget := Lhd (fun i (hi : i < n) => sts_below hx hi)
  have Hb := Lhd hb
  have HS := Lhd hS
  have HB := Lhd hB
  have Hl := Lhd (show 2 + (linesT (txtS d) k xs).length + 2 * k + 1 ≤ 1000000000 from by
   have := indT_len k
   simp only [List.length_append, List.length_cons, List.length_nil] at hlen
   omega)
  have Hk := Lhd hk
  clear hx hb hS hlen hnil hbT hB
  go_enter Tryz.func43, Tryz.ntmps43
  go_wp2
  go_loopw [5, 6] (fun s i wr => ∃ (j : Nat) (S : ByteArray), j ≤ n ∧ i = .int .i64 j ∧ s = .string S ∧ Hid (S.data.toList = [123, 10] ++ linesT (txtS d) k (xs.take j)) ∧ Hid (Below w.heap.size w wr)) (fun _ i _ => n - (intOf i).toNat)
  case atStart => exact ⟨0, ⟨#[123, 10]⟩, Nat.zero_le _, rfl, rfl, Lhd rfl, Lhd (Below.refl _ _)⟩
  case round =>
   obtain ⟨j, S, hj, rfl, rfl, HSt, HW⟩ := hrel
   have hSl : S.size = 2 + (linesT (txtS d) k (xs.take j)).length := by
    have e : S.size = S.data.toList.length := rfl
    rw [e, HSt.out, List.length_append]
    rfl
   have hle := linesT_le (f := txtS d) (k := k) (i := j) (l := xs)
   have hL := Hl.out
   rcases Nat.lt_or_ge j n with hlt | hge
   ·obtain ⟨b, o, x, Ac, nc, cc, Ae, ne, ce, Ab, nb, cb, Al, nl, cl, rfl, he, hat⟩ := Hget.out j hlt
    obtain ⟨⟨hbl, z0, z1, z2, z3, z4, z5, z6, z7⟩, hxs⟩ := hat _ HW.out
    have Hlt := Lhd (linesT_take (f := txtS d) (k := k) he)
    have hle2 := linesT_le (f := txtS d) (k := k) (i := j + 1) (l := xs)
    rw [Hlt.out] at hle2
    have hil := indT_len (k + 1)
    simp only [List.length_append, List.length_cons, List.length_nil] at hle2
    have hT : (⟨(txtS d (k + 1) x).toArray⟩ : ByteArray).size = (txtS d (k + 1) x).length := arr_size _
    have Hc := Lhd (HS.out x _ (k + 1) (B ++ ⟨#[32, 32]⟩) wr hxs (Hb.out x (List.mem_of_getElem? he)) (ind_more HB.out) (by have := Hk.out; omega) (by omega))
    obtain ⟨T, hTe⟩ : ∃ T : ByteArray, (⟨(txtS d (k + 1) x).toArray⟩ : ByteArray) = T := ⟨_, rfl⟩
    have HT := Lhd (show T.data.toList = txtS d (k + 1) x from by rw [← hTe])
    rw [hTe] at Hc hT
    have n1 : ¬ 9223372036854775807 < S.size + B.size := by omega
    have n2 : ¬ 9223372036854775807 < S.size + B.size + 2 := by omega
    have n3 : ¬ 9223372036854775807 < B.size + 2 := by omega
    have n4 : ¬ 9223372036854775807 < S.size + B.size + 2 + T.size := by omega
    have n5 : ¬ 9223372036854775807 < S.size + B.size + 2 + T.size + 1 := by omega
    clear he hat hxs hle hle2 hT hTe hSl hL hil
    go_wp2_with (go_at_call 85; refine Hc.out.mono ?_; rintro y w3 ⟨rfl, hb3⟩)
    have Hb3 := Lhd (HW.out.trans (hb3.mono HW.out.size))
    clear hb3
    go_roundw
    case rel =>
     refine ⟨j + 1, _, by omega, by go_num, rfl, Lhd ?_, Lhd Hb3.out⟩
     have e2 := ind_more HB.out
     rw [ByteArray.data_append, Array.toList_append] at e2
     rw [Hlt.out, ← e2]
     simp [ByteArray.data_append, HSt.out, HT.out]
    case measure => simp [intOf]; omega
   ·obtain rfl : j = n := Nat.le_antisymm hj hge
    have e1 : xs.take j = xs := List.take_of_length_le (by omega)
    rw [e1] at HSt hle hSl
    have n1 : ¬ 9223372036854775807 < S.size + B.size := by omega
    have n2 : ¬ 9223372036854775807 < S.size + B.size + 1 := by omega
    clear hle hSl hL
    go_wp2
    go_ret
    exact ⟨ret_str (Array.ext' (by simp [ByteArray.data_append, HSt.out, HB.out])), HW.out⟩
end Go.Proofs.YtmgldjpdhpopnaaGreatDoor
