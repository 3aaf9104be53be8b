/- Parts of this proof, one behind the other: PrsF. -/
import Derived.Test.YtjpiedpmnnepgaaGreatDoorPz14
set_option maxRecDepth 1000000
set_option maxHeartbeats 40000000
namespace Go.Proofs.YtjpiedpmnnepgaaGreatDoor
open Go.RowKit Go.Afx
theorem first_at {F : Nat → Prop} {d n c : Nat} {w : World} {A : Option Addr} {a : Ex} {r : List Ex} (h : ExsAt F d w A n c (a :: r)) : ∃ b o A1 m1 c1, A = some ⟨b, o, none⟩ ∧ F b ∧ b < w.heap.size ∧ Six w b o a A1 m1 c1 ∧ ExAt F d w (rowOf a A1 m1 c1) a := by
 have hl := LsAt.len h
 obtain ⟨b, o, r', e, hA, hb, hFb, he, _, hp, hc⟩ := LsAt.get h (k := 0) (by rw [← hl]; simp)
 simp at he
 subst he
 obtain ⟨A1, m1, c1, rfl⟩ := ex_row hp
 exact ⟨b, o, A1, m1, c1, hA, hFb, hb, ⟨by simpa using hc 0 _ rfl, by simpa using hc 1 _ rfl, by simpa using hc 2 _ rfl, by simpa using hc 3 _ rfl, by simpa using hc 4 _ rfl, by simpa using hc 5 _ rfl⟩, hp⟩
theorem list_does {F : Nat → Prop} {d g n c : Nat} {w : World} {A : Option Addr} {es : List Ex} (hx : ExsAt F d w A n c es) (hb : ∀ e ∈ es, builtE d e = true) (hF : ∀ k, F k → k < g) (hm : HasMax w) (hg : 0 < g) :
  Does g w 187 #[.pointer (some ⟨g, 0, none⟩), .slice A n c] (joinT (es.map (txtE d))) (es.any (nlE d)) :=
 fun W t br hW h hl => list_any F d es A n c g t br W (ExsAt.kept hx ⟨hW.1.size, fun k _ hf => hW.1.block k (hF k hf)⟩) hb hF h (hm.below hg hW.1) hg hl
theorem block_does {F : Nat → Prop} {d g n c k : Nat} {w : World} {A : Option Addr} {xs : List St} (hS : StmtC F d) (hx : StsAt F d w A n c xs) (hb : ∀ x ∈ xs, builtS d x = true) (hF : ∀ k, F k → k < g) (hm : HasMax w) (hg : 0 < g) (hk : k + d ≤ 999) :
  Does g w 76 #[.pointer (some ⟨g, 0, none⟩), .slice A n c, .int .i64 k] (blockT (txtS d) k xs) (xs.any (nlS d)) :=
 fun W t br hW h hl => block_any F d hS xs A n c k g t br W (StsAt.kept hx ⟨hW.1.size, fun k _ hf => hW.1.block k (hF k hf)⟩) hb hF h (hm.below hg hW.1) hg hk hl
theorem plain_does {F : Nat → Prop} {d g : Nat} {w : World} {op n : Int} {name src : ByteArray} {cols : List ByteArray} {es : List Ex} {Ac Ae Ab Al : Option Addr} {nc cc ne ce nb cb nl cl nB nL : Nat} (hg1 : ShapeG op name src n cols es.length nB nL) (h6 : op ≠ 6) (h7 : op ≠ 7) (hc : LsAt F w 1 SRow Ac nc cc cols) (hx : ExsAt F d w Ae ne ce es) (hb : ∀ e ∈ es, builtE d e = true) (hF : ∀ k, F k → k < g) (hm : HasMax w) (hg : 0 < g) :
  Does g w 162 #[.pointer (some ⟨g, 0, none⟩), .agg #[.int .i64 op, .string name, .string src, .int .i64 n, .slice Ac nc cc, .slice Ae ne ce, .slice Ab nb cb, .slice Al nl cl]] (plainT d op name src cols es) (es.any (nlE d)) := by
 intro W t br hW h hl
 have hk : Kept F w W := ⟨hW.1.size, fun k _ hf => hW.1.block k (hF k hf)⟩
 have hc := hc.kept hk
 have hx := ExsAt.kept hx hk
 have hm := hm.below hg hW.1
 have hld := list_does hx hb hF hm hg
 have hE := expr_any d F
 have hen := LsAt.len hx
 have hcn := LsAt.len hc
 unfold plainT at hl ⊢
 rcases hg1.ops with rfl | rfl | rfl | rfl | rfl | rfl | rfl | rfl | rfl | rfl
 ·have h := plain_1 name src n Ac Ab Al nc cc nb cb nl cl Ae ne ce _ _ g t br W h hld (by simpa using hl)
  simpa using h
 ·have h := plain_2 name src n Ac Ab Al nc cc nb cb nl cl Ae ne ce _ _ g t br W h hld (by simpa using hl)
  simpa using h
 ·have h := plain_3 name src n Ac Ab Al nc cc nb cb nl cl Ae ne ce _ _ g t br W h hld (by simpa using hl)
  simpa using h
 ·obtain ⟨h4, h41⟩ := hg1.four rfl
  rcases es with _ | ⟨a, r⟩
  ·simp at h4
  ·obtain ⟨b, o, A1, m1, c1, rfl, hFb, hbl, hS, hxa⟩ := first_at hx
   have hba := hb a (by simp)
   have e1 : ne = nc + 1 := by omega
   subst e1
   have h8 := hg1.cols8
   have h := plain_4 name src n Ac Ab Al nc cc nb cb nl cl F d cols r b o ce a A1 m1 c1 _ _ g t br W h hc hx (fun e he => hb e (by simp [he])) hF hm hg (by omega) (hF b hFb) hS (rows_does hE name src hxa hba hF hm hg) (by simpa [rowsX] using hl)
   simpa [rowsX] using h
 ·have h1 := hg1.only (by simp)
  obtain ⟨a, rfl⟩ := List.length_eq_one_iff.1 h1
  obtain ⟨b, o, A1, m1, c1, rfl, hFb, hbl, hS, hxa⟩ := first_at hx
  have h := plain_5 name src n Ac Ab Al nc cc nb cb nl cl b o ne ce a A1 m1 c1 _ _ g t br W h (hF b hFb) (by simp at hen; omega) hS (rows_does hE name src hxa (hb a (by simp)) hF hm hg) (by simpa [rowsX] using hl)
  simpa [rowsX] using h
 ·exact absurd rfl h6
 ·exact absurd rfl h7
 ·have h := plain_8 name src n Ac Ab Al nc cc nb cb nl cl Ae ne ce _ _ g t br W h hld (by simpa using hl)
  simpa using h
 ·have h := plain_9 name src n Ac Ab Al nc cc nb cb nl cl Ae ne ce _ _ g t br W h hld (by simpa using hl)
  simpa using h
 ·have h := plain_10 name src n Ac Ab Al nc cc nb cb nl cl Ae ne ce _ _ g t br W h hld (by simpa using hl)
  simpa using h
theorem nlS_op {d : Nat} {op : Int} {name src : ByteArray} {n : Int} {cols : List ByteArray} {exprs : List Ex} {body els : List St} : nlS (d + 1) (.mk op name src n cols exprs body els) = (exprs.any (nlE d) || body.any (nlS d) || els.any (nlS d)) := by rw [nlS]; rfl
theorem stmt_any : ∀ (d : Nat) (F : Nat → Prop), StmtC F d := by
 intro d
 induction d with
 | zero => intro F x row g t br w k hx; exact hx.elim
 | succ d ih =>
  intro F x row g t br w k hx hb hF h hm hg hk hlen
  obtain ⟨op, name, src, n, cols, exprs, body, els⟩ := x
  obtain ⟨hs, he, hbo, hel⟩ := builtS_parts hb
  obtain ⟨_, _, _, _, Ac, nc, cc, Ae, ne, ce, Ab, nb, cb, Al, nl, cl, rfl, hxc, hxe, hxb, hxl⟩ := hx.open_
  have hxc : LsAt F w 1 SRow Ac nc cc cols := hxc
  have hxe : ExsAt F d w Ae ne ce exprs := hxe
  have hxb : StsAt F d w Ab nb cb body := hxb
  have hxl : StsAt F d w Al nl cl els := hxl
  have hen := LsAt.len hxe
  have hbn := LsAt.len hxb
  have hln := LsAt.len hxl
  have hB := block_does (k := k) (ih F) hxb hbo hF hm hg (by omega)
  have hB2 := block_does (k := k) (ih F) hxl hel hF hm hg (by omega)
  have hE := expr_any d F
  rw [txtS_op] at hlen ⊢
  rw [nlS_op]
  by_cases h6 : op = 6
  ·subst h6
   rw [if_pos rfl] at hlen ⊢
   have h1 := hs.only (by simp)
   obtain ⟨a, rfl⟩ := List.length_eq_one_iff.1 h1
   obtain ⟨b, o, A1, m1, c1, rfl, hFb, hbl, hS, hxa⟩ := first_at hxe
   have hl0 : els = [] := List.eq_nil_of_length_eq_zero (hs.els (by decide))
   subst hl0
   have hD := rows_does hE name src hxa (he a (by simp)) hF hm hg
   by_cases hn : 0 < n
   ·rw [if_pos hn] at hlen ⊢
    have h := stmt_6l name src n Ac Ab Al nc cc nb cb nl cl k _ _ b o ne ce a A1 m1 c1 _ _ g t br w h (hF b hFb) (by simp at hen; omega) hS hD hB hn hs.n1 (by simpa [rowsX] using hlen)
    simpa [rowsX, Bool.or_assoc, St.op, St.name, St.src, St.n] using h
   ·rw [if_neg hn] at hlen ⊢
    have hn0 : n = 0 := by have := hs.n0; omega
    have h := stmt_6 name src n Ac Ab Al nc cc nb cb nl cl k _ _ b o ne ce a A1 m1 c1 _ _ g t br w h (hF b hFb) (by simp at hen; omega) hS hD hB hn0 (by simpa [rowsX] using hlen)
    simpa [rowsX, Bool.or_assoc, St.op, St.name, St.src, St.n] using h
  ·rw [if_neg h6] at hlen ⊢
   by_cases h7 : op = 7
   ·subst h7
    rw [if_pos rfl] at hlen ⊢
    have h1 := hs.only (by simp)
    obtain ⟨a, rfl⟩ := List.length_eq_one_iff.1 h1
    obtain ⟨b, o, A1, m1, c1, rfl, hFb, hbl, hS, hxa⟩ := first_at hxe
    have hD := expr_does hE hxa (he a (by simp)) hF hm hg
    rcases els with _ | ⟨e0, er⟩
    ·rw [if_pos rfl] at hlen ⊢
     have h := stmt_7 name src n Ac Ab Al nc cc nb cb nl cl k _ _ b o ne ce a A1 m1 c1 _ _ g t br w h (hF b hFb) (by simp at hen; omega) hS hD hB (by simpa using hln.symm) (by simpa [firstT] using hlen)
     simpa [firstT, Bool.or_assoc, St.op, St.name, St.src, St.n] using h
    ·rw [if_neg (by simp)] at hlen ⊢
     have h := stmt_7e name src n Ac Ab Al nc cc nb cb nl cl k _ _ _ _ b o ne ce a A1 m1 c1 _ _ g t br w h (hF b hFb) (by simp at hen; omega) hS hD hB hB2 (by rw [← hln]; simp) (by simpa [firstT] using hlen)
     simpa [firstT, Bool.or_assoc, St.op, St.name, St.src, St.n] using h
   ·rw [if_neg h7] at hlen ⊢
    have hb0 : body = [] := List.eq_nil_of_length_eq_zero (hs.body h6 h7)
    have hl0 : els = [] := List.eq_nil_of_length_eq_zero (hs.els h7)
    subst hb0 hl0
    have hD := plain_does (Ab := Ab) (Al := Al) (nb := nb) (cb := cb) (nl := nl) (cl := cl) hs h6 h7 hxc hxe he hF hm hg
    have h := stmt_plain name src n Ac Ab Al nc cc nb cb nl cl op k Ae ne ce _ _ g t br w h h6 h7 hD (by simpa using hlen)
    simpa [St.op, St.name, St.src, St.n] using h
end Go.Proofs.YtjpiedpmnnepgaaGreatDoor
