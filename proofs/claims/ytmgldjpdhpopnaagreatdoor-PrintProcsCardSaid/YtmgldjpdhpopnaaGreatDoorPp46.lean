/- Parts of this proof, one behind the other: PrsQ. -/
import Derived.Test.YtmgldjpdhpopnaaGreatDoorPp43
import Derived.Test.YtmgldjpdhpopnaaGreatDoorPp45
import Derived.Deep.RegionHeld3
set_option maxRecDepth 1000000
set_option maxHeartbeats 40000000
namespace Go.Proofs.YtmgldjpdhpopnaaGreatDoor
open Go.RowKit Go.Afx
theorem cos_below {F : Nat → Prop} {n c : Nat} {w : World} {A : Option Addr} {xs : List Co} (h : LsAt F w 2 CoRow A n c xs) {k : Nat} (hk : k < n) :
  ∃ b o x, A = some ⟨b, o, none⟩ ∧ xs[k]? = some x ∧ ∀ W, Below w.heap.size w W → b < W.heap.size ∧ W.cell? ⟨b, o + k * 2, none⟩ = some (.string x.name) ∧ W.cell? ⟨b, o + k * 2 + 1, none⟩ = some (.int .i64 x.kind) := by
 obtain ⟨b, o, r, x, hA, hb, hFb, hx, _, ⟨rfl, _, _⟩, hc⟩ := h.get hk
 exact ⟨b, o, x, hA, hx, fun W hW => ⟨Nat.lt_of_lt_of_le hb hW.size, (hW.cell (p := ⟨b, o + k * 2, none⟩) hb).trans (by simpa using hc 0 _ rfl), (hW.cell (p := ⟨b, o + k * 2 + 1, none⟩) hb).trans (hc 1 _ rfl)⟩⟩
theorem box4 {w : World} {g : Nat} {T : TypeId} {v0 v1 v2 v3 : Value} (h : IsBlk w g T #[v0, v1, v2, v3]) : w.cell? ⟨g, 0, none⟩ = some v0 ∧ w.cell? ⟨g, 1, none⟩ = some v1 ∧ w.cell? ⟨g, 2, none⟩ = some v2 ∧ w.cell? ⟨g, 3, none⟩ = some v3 ∧ g < w.heap.size := by
 have h0 := h.cell 0; have h1 := h.cell 1; have h2 := h.cell 2; have h3 := h.cell 3
 simp at h0 h1 h2 h3
 exact ⟨h0, h1, h2, h3, h.lt⟩
theorem rproc_texts (F : Nat → Prop) (name src part : ByteArray) (fuel : Int) (params : List Co) (Ap Ab : Option Addr) (np cp nb cb : Nat) (S2 : ByteArray) (w : World) (hp : LsAt F w 2 CoRow Ap np cp params) (hg : HeadsG name src part fuel params) (hD : RTx w 43 #[.slice Ab nb cb, .string ⟨#[]⟩] S2) (hl2 : S2.size ≤ 1000000000) :
  Calls Tryz.prog 17 #[.agg #[.string name, .string src, .string part, .int .i64 fuel, .slice Ap np cp, .slice Ab nb cb]] w fun e' w' => e' = .returned (.string ⟨([112, 114, 111, 99, 32] ++ name.data.toList ++ [40] ++ joinT (params.map paramT) ++ [41] ++ (if noS part then [] else [32, 111, 110, 32] ++ part.data.toList) ++ (if noS src then [] else [32, 102, 114, 111, 109, 32] ++ src.data.toList) ++ (if fuel = 100 then [] else [32, 102, 117, 101, 108, 32] ++ decS fuel) ++ [32] ++ S2.data.toList).toArray⟩) ∧ Below w.heap.size w w' := by
 generalize hTX : ([112, 114, 111, 99, 32] ++ name.data.toList ++ [40] ++ joinT (params.map paramT) ++ [41] ++ (if noS part then [] else [32, 111, 110, 32] ++ part.data.toList) ++ (if noS src then [] else [32, 102, 114, 111, 109, 32] ++ src.data.toList) ++ (if fuel = 100 then [] else [32, 102, 117, 101, 108, 32] ++ decS fuel) ++ [32] ++ S2.data.toList) = TX
 have HTX := Lhd hTX
 clear hTX
 have hn := LsAt.n_le hp
 have hpl := params_len hg.few hg.names
 have Hpl := Lhd hpl
 have Hne := Lhd (LsAt.len hp)
 have Hget := Lhd (fun k (hk : k < np) => cos_below hp hk)
 have Hks := Lhd hg.kinds
 have Hnm := Lhd hg.names
 have hns := size_le hg.name_
 have hss := size_le hg.src_
 have hps := size_le hg.part_
 have Hcp := Lhd (fun W => refPrint_int fuel (by have := hg.f0; omega) (by have := hg.f1; omega) W)
 obtain ⟨NN, hNN⟩ : ∃ N : ByteArray, (⟨(decS fuel).toArray⟩ : ByteArray) = N := ⟨_, rfl⟩
 have HNN := Lhd (show NN.data.toList = decS fuel from by rw [← hNN])
 have hNs : NN.size ≤ 19 := by rw [← hNN, arr_size]; exact decS_small (by have := hg.f0; omega) (by have := hg.f1; omega)
 rw [hNN] at Hcp
 have HD := Lhd hD
 have n0 : ¬ 9223372036854775807 < 5 + name.size := by omega
 have n1 : ¬ 9223372036854775807 < 5 + name.size + 1 := by omega
 obtain ⟨w1, Hw1⟩ : ∃ w1, Hid (w1 = w.alloc (.cells #[.string name, .string src, .string part, .int .i64 fuel, .slice Ap np cp, .slice Ab nb cb] 50)) := ⟨_, rfl⟩
 have hb1 : Below w.heap.size w w1 := by rw [Hw1.out]; exact (Below.refl _ _).alloc (Nat.le_refl _) _
 have hk1 : IsBlk w1 w.heap.size 50 #[.string name, .string src, .string part, .int .i64 fuel, .slice Ap np cp, .slice Ab nb cb] := by rw [Hw1.out]; exact IsBlk.laid _ _ _
 obtain ⟨w2, Hw2⟩ : ∃ w2, Hid (w2 = w1.alloc (.cells #[.string ⟨#[]⟩, .string ⟨#[105, 110, 116]⟩, .string ⟨#[116, 101, 120, 116]⟩, .string ⟨#[98, 111, 111, 108]⟩] 9)) := ⟨_, rfl⟩
 have hb2 : Below w1.heap.size w1 w2 := by rw [Hw2.out]; exact (Below.refl _ _).alloc (Nat.le_refl _) _
 have hk2 : IsBlk w2 w1.heap.size 9 #[.string ⟨#[]⟩, .string ⟨#[105, 110, 116]⟩, .string ⟨#[116, 101, 120, 116]⟩, .string ⟨#[98, 111, 111, 108]⟩] := by rw [Hw2.out]; exact IsBlk.laid _ _ _
 have hk12 := hk1.as_was (hb2.block _ hk1.lt)
 have Hx := Lhd (fun W (hW : Below w2.heap.size w2 W) => box6 (hk12.as_was (hW.block _ hk12.lt)))
 have Hk := Lhd (fun W (hW : Below w2.heap.size w2 W) => box4 (hk2.as_was (hW.block _ hk2.lt)))
 have Hb2 := Lhd (hb1.trans (hb2.mono hb1.size))
 have hrf : Below w2.heap.size w2 w2 := Below.refl _ _
 obtain ⟨x0, x1, x2, x3, x4, x5, xl⟩ := box6 hk1
 have HR := Lhd (HD.out.at_ Hb2.out)
 clear hb1 hk1 hb2 hk2 hk12 hp hg hD hNN
 go_enter Tryz.func17, Tryz.ntmps17
 go_upto_region 1 with (fail)
 rw [← Hw1.out]
 go_upto_region 3 with (fail)
 rw [← Hw2.out]
 clear x0 x1 x2 x3 x4 x5 xl
 have HP0 := Lhd (show (⟨#[112, 114, 111, 99, 32]⟩ ++ name ++ ⟨#[40]⟩ : ByteArray).data.toList = ([112, 114, 111, 99, 32] ++ name.data.toList ++ [40]) from by simp [ByteArray.data_append])
 have HPl := Lhd (show (([112, 114, 111, 99, 32] ++ name.data.toList ++ [40]) : List UInt8).length = 5 + name.size + 1 from by have e : name.size = name.data.toList.length := rfl; simp only [List.length_append, List.length_cons, List.length_nil]; omega)
 have Hfull := Lhd (show ([112, 114, 111, 99, 32] ++ name.data.toList ++ [40] ++ joinT (params.map paramT) ++ [41] ++ (if noS part then [] else [32, 111, 110, 32] ++ part.data.toList) ++ (if noS src then [] else [32, 102, 114, 111, 109, 32] ++ src.data.toList) ++ (if fuel = 100 then [] else [32, 102, 117, 101, 108, 32] ++ decS fuel) ++ [32] ++ S2.data.toList) = ([112, 114, 111, 99, 32] ++ name.data.toList ++ [40]) ++ joinT (params.map paramT) ++ ([41] ++ (if noS part then [] else [32, 111, 110, 32] ++ part.data.toList) ++ (if noS src then [] else [32, 102, 114, 111, 109, 32] ++ src.data.toList) ++ (if fuel = 100 then [] else [32, 102, 117, 101, 108, 32] ++ decS fuel) ++ [32] ++ S2.data.toList) from by simp)
 generalize (([112, 114, 111, 99, 32] ++ name.data.toList ++ [40]) : List UInt8) = P at *
 go_wp2
 go_loopw [3, 5] (fun s i wr => ∃ (k : Nat) (S : ByteArray), k ≤ np ∧ i = .int .i64 k ∧ s = .string S ∧ Hid (S.data.toList = P ++ joinT ((params.map paramT).take k)) ∧ Hid (Below w2.heap.size w2 wr)) (fun _ i _ => np - (intOf i).toNat)
 case atStart => exact ⟨0, _, Nat.zero_le _, rfl, rfl, Lhd (by rw [HP0.out]; simp [joinT]), Lhd hrf⟩
 case round =>
  obtain ⟨k, S, hk, rfl, rfl, HS, HW⟩ := hrel
  obtain ⟨x0, x1, x2, x3, x4, x5, xl⟩ := Hx.out _ HW.out
  have hSl : S.size = 5 + name.size + 1 + (joinT ((params.map paramT).take k)).length := by
   have e : S.size = S.data.toList.length := rfl
   rw [e, HS.out, List.length_append, HPl.out]
  rcases Nat.lt_or_ge k np with hlt | hge
  ·obtain ⟨b, o, c, rfl, he, hat⟩ := Hget.out k hlt
   have hlm : k < (params.map paramT).length := by rw [List.length_map, Hne.out]; exact hlt
   have hjl := joinT_take_le hlm
   have hjt := joinT_take hlm
   have hgt : (params.map paramT)[k]'hlm = paramT c := by
    obtain ⟨h1, h2⟩ := List.getElem?_eq_some_iff.1 he
    rw [List.getElem_map, h2]
   rw [hgt] at hjl hjt
   obtain ⟨k1, k2⟩ := Hks.out c (List.mem_of_getElem? he)
   have hcn := size_le (Hnm.out c (List.mem_of_getElem? he))
   obtain ⟨nm, kd⟩ := c
   have k1 : 1 ≤ kd := k1
   have k2 : kd ≤ 3 := k2
   have hcn : nm.size ≤ 1000000 := hcn
   have hpt : paramT ⟨nm, kd⟩ = nm.data.toList ++ [32] ++ kindT kd := rfl
   rw [hpt] at hjl hjt
   have Hjt := Lhd hjt
   have hjj : (joinT ((params.map paramT).take k)).length ≤ 200 := by have := Hpl.out; omega
   have HC := Lhd (fun W (hW : Below w2.heap.size w2 W) => (show W.cell? ⟨b, o + k * 2, none⟩ = some (.string nm) ∧ W.cell? ⟨b, o + k * 2 + 1, none⟩ = some (.int .i64 kd) ∧ b < W.heap.size from by
    obtain ⟨q0, q1, q2⟩ := hat W (Hb2.out.trans (hW.mono Hb2.out.size))
    exact ⟨q1, q2, q0⟩))
   clear hjl hjt hgt he hlm hat hpt hpl
   rcases Nat.eq_zero_or_pos k with rfl | h0
   ·rw [if_pos rfl] at Hjt
    obtain rfl | rfl | rfl : kd = 1 ∨ kd = 2 ∨ kd = 3 := by omega
    ·have n2 : ¬ 9223372036854775807 < S.size + nm.size := by omega
     have n3 : ¬ 9223372036854775807 < S.size + nm.size + 1 := by omega
     have n4 : ¬ 9223372036854775807 < S.size + nm.size + 1 + 3 := by omega
     have HSS := Lhd (fun W (hW : Below wr.heap.size wr W) => (show W.cell? ⟨w.heap.size, 0, none⟩ = some (.string name) ∧ W.cell? ⟨w.heap.size, 1, none⟩ = some (.string src) ∧ W.cell? ⟨w.heap.size, 2, none⟩ = some (.string part) ∧ W.cell? ⟨w.heap.size, 3, none⟩ = some (.int .i64 fuel) ∧ W.cell? ⟨w.heap.size, 4, none⟩ = some (.slice (some ⟨b, o, none⟩) np cp) ∧ W.cell? ⟨w.heap.size, 5, none⟩ = some (.slice Ab nb cb) ∧ W.cell? ⟨b, o, none⟩ = some (.string nm) ∧ W.cell? ⟨b, o + 1, none⟩ = some (.int .i64 1) ∧ W.cell? ⟨w1.heap.size, 1, none⟩ = some (.string ⟨#[105, 110, 116]⟩) ∧ w.heap.size < W.heap.size ∧ b < W.heap.size ∧ w1.heap.size < W.heap.size from by
      have hall := HW.out.trans (hW.mono HW.out.size)
      obtain ⟨p0, p1, p2, p3, p4, p5, p6⟩ := Hx.out W hall
      obtain ⟨q0, q1, q2⟩ := HC.out W hall
      obtain ⟨r0, r1, r2, r3, r4⟩ := Hk.out W hall
      exact ⟨p0, p1, p2, p3, p4, p5, by simpa using q0, by simpa using q1, r1, p6, q2, r4⟩))
     clear hSl hjj hcn
     go_upto_region 8 with (fail)
     clear x0 x1 x2 x3 x4 x5 xl
     obtain ⟨x0, x1, x2, x3, x4, x5, y0, y1, z0, xl, yl, zl⟩ := HSS.out wr (Below.refl _ _)
     go_region_held3 (fun W => W.cell? ⟨w.heap.size, 0, none⟩ = some (.string name) ∧ W.cell? ⟨w.heap.size, 1, none⟩ = some (.string src) ∧ W.cell? ⟨w.heap.size, 2, none⟩ = some (.string part) ∧ W.cell? ⟨w.heap.size, 3, none⟩ = some (.int .i64 fuel) ∧ W.cell? ⟨w.heap.size, 4, none⟩ = some (.slice (some ⟨b, o, none⟩) np cp) ∧ W.cell? ⟨w.heap.size, 5, none⟩ = some (.slice Ab nb cb) ∧ W.cell? ⟨b, o, none⟩ = some (.string nm) ∧ W.cell? ⟨b, o + 1, none⟩ = some (.int .i64 1) ∧ W.cell? ⟨w1.heap.size, 1, none⟩ = some (.string ⟨#[105, 110, 116]⟩) ∧ w.heap.size < W.heap.size ∧ b < W.heap.size ∧ w1.heap.size < W.heap.size) (first | assumption | exact HSS.out _ (Below.drew (Below.refl _ _))) (fail)
     clear x0 x1 x2 x3 x4 x5 y0 y1 z0 xl yl zl
     go_wp2
     go_roundw
     case rel =>
      refine ⟨0 + 1, _, by omega, by go_num, rfl, Lhd ?_, Lhd HW.out.drew⟩
      rw [Hjt.out]
      simp [ByteArray.data_append, HS.out, kindT, joinT]
     case measure => simp [intOf]; omega
    ·have n2 : ¬ 9223372036854775807 < S.size + nm.size := by omega
     have n3 : ¬ 9223372036854775807 < S.size + nm.size + 1 := by omega
     have n4 : ¬ 9223372036854775807 < S.size + nm.size + 1 + 4 := by omega
     have HSS := Lhd (fun W (hW : Below wr.heap.size wr W) => (show W.cell? ⟨w.heap.size, 0, none⟩ = some (.string name) ∧ W.cell? ⟨w.heap.size, 1, none⟩ = some (.string src) ∧ W.cell? ⟨w.heap.size, 2, none⟩ = some (.string part) ∧ W.cell? ⟨w.heap.size, 3, none⟩ = some (.int .i64 fuel) ∧ W.cell? ⟨w.heap.size, 4, none⟩ = some (.slice (some ⟨b, o, none⟩) np cp) ∧ W.cell? ⟨w.heap.size, 5, none⟩ = some (.slice Ab nb cb) ∧ W.cell? ⟨b, o, none⟩ = some (.string nm) ∧ W.cell? ⟨b, o + 1, none⟩ = some (.int .i64 2) ∧ W.cell? ⟨w1.heap.size, 2, none⟩ = some (.string ⟨#[116, 101, 120, 116]⟩) ∧ w.heap.size < W.heap.size ∧ b < W.heap.size ∧ w1.heap.size < W.heap.size from by
      have hall := HW.out.trans (hW.mono HW.out.size)
      obtain ⟨p0, p1, p2, p3, p4, p5, p6⟩ := Hx.out W hall
      obtain ⟨q0, q1, q2⟩ := HC.out W hall
      obtain ⟨r0, r1, r2, r3, r4⟩ := Hk.out W hall
      exact ⟨p0, p1, p2, p3, p4, p5, by simpa using q0, by simpa using q1, r2, p6, q2, r4⟩))
     clear hSl hjj hcn
     go_upto_region 8 with (fail)
     clear x0 x1 x2 x3 x4 x5 xl
     obtain ⟨x0, x1, x2, x3, x4, x5, y0, y1, z0, xl, yl, zl⟩ := HSS.out wr (Below.refl _ _)
     go_region_held3 (fun W => W.cell? ⟨w.heap.size, 0, none⟩ = some (.string name) ∧ W.cell? ⟨w.heap.size, 1, none⟩ = some (.string src) ∧ W.cell? ⟨w.heap.size, 2, none⟩ = some (.string part) ∧ W.cell? ⟨w.heap.size, 3, none⟩ = some (.int .i64 fuel) ∧ W.cell? ⟨w.heap.size, 4, none⟩ = some (.slice (some ⟨b, o, none⟩) np cp) ∧ W.cell? ⟨w.heap.size, 5, none⟩ = some (.slice Ab nb cb) ∧ W.cell? ⟨b, o, none⟩ = some (.string nm) ∧ W.cell? ⟨b, o + 1, none⟩ = some (.int .i64 2) ∧ W.cell? ⟨w1.heap.size, 2, none⟩ = some (.string ⟨#[116, 101, 120, 116]⟩) ∧ w.heap.size < W.heap.size ∧ b < W.heap.size ∧ w1.heap.size < W.heap.size) (first | assumption | exact HSS.out _ (Below.drew (Below.refl _ _))) (fail)
     clear x0 x1 x2 x3 x4 x5 y0 y1 z0 xl yl zl
     go_wp2
     go_roundw
     case rel =>
      refine ⟨0 + 1, _, by omega, by go_num, rfl, Lhd ?_, Lhd HW.out.drew⟩
      rw [Hjt.out]
      simp [ByteArray.data_append, HS.out, kindT, joinT]
     case measure => simp [intOf]; omega
    ·have n2 : ¬ 9223372036854775807 < S.size + nm.size := by omega
     have n3 : ¬ 9223372036854775807 < S.size + nm.size + 1 := by omega
     have n4 : ¬ 9223372036854775807 < S.size + nm.size + 1 + 4 := by omega
     have HSS := Lhd (fun W (hW : Below wr.heap.size wr W) => (show W.cell? ⟨w.heap.size, 0, none⟩ = some (.string name) ∧ W.cell? ⟨w.heap.size, 1, none⟩ = some (.string src) ∧ W.cell? ⟨w.heap.size, 2, none⟩ = some (.string part) ∧ W.cell? ⟨w.heap.size, 3, none⟩ = some (.int .i64 fuel) ∧ W.cell? ⟨w.heap.size, 4, none⟩ = some (.slice (some ⟨b, o, none⟩) np cp) ∧ W.cell? ⟨w.heap.size, 5, none⟩ = some (.slice Ab nb cb) ∧ W.cell? ⟨b, o, none⟩ = some (.string nm) ∧ W.cell? ⟨b, o + 1, none⟩ = some (.int .i64 3) ∧ W.cell? ⟨w1.heap.size, 3, none⟩ = some (.string ⟨#[98, 111, 111, 108]⟩) ∧ w.heap.size < W.heap.size ∧ b < W.heap.size ∧ w1.heap.size < W.heap.size from by
      have hall := HW.out.trans (hW.mono HW.out.size)
      obtain ⟨p0, p1, p2, p3, p4, p5, p6⟩ := Hx.out W hall
      obtain ⟨q0, q1, q2⟩ := HC.out W hall
      obtain ⟨r0, r1, r2, r3, r4⟩ := Hk.out W hall
      exact ⟨p0, p1, p2, p3, p4, p5, by simpa using q0, by simpa using q1, r3, p6, q2, r4⟩))
     clear hSl hjj hcn
     go_upto_region 8 with (fail)
     clear x0 x1 x2 x3 x4 x5 xl
     obtain ⟨x0, x1, x2, x3, x4, x5, y0, y1, z0, xl, yl, zl⟩ := HSS.out wr (Below.refl _ _)
     go_region_held3 (fun W => W.cell? ⟨w.heap.size, 0, none⟩ = some (.string name) ∧ W.cell? ⟨w.heap.size, 1, none⟩ = some (.string src) ∧ W.cell? ⟨w.heap.size, 2, none⟩ = some (.string part) ∧ W.cell? ⟨w.heap.size, 3, none⟩ = some (.int .i64 fuel) ∧ W.cell? ⟨w.heap.size, 4, none⟩ = some (.slice (some ⟨b, o, none⟩) np cp) ∧ W.cell? ⟨w.heap.size, 5, none⟩ = some (.slice Ab nb cb) ∧ W.cell? ⟨b, o, none⟩ = some (.string nm) ∧ W.cell? ⟨b, o + 1, none⟩ = some (.int .i64 3) ∧ W.cell? ⟨w1.heap.size, 3, none⟩ = some (.string ⟨#[98, 111, 111, 108]⟩) ∧ w.heap.size < W.heap.size ∧ b < W.heap.size ∧ w1.heap.size < W.heap.size) (first | assumption | exact HSS.out _ (Below.drew (Below.refl _ _))) (fail)
     clear x0 x1 x2 x3 x4 x5 y0 y1 z0 xl yl zl
     go_wp2
     go_roundw
     case rel =>
      refine ⟨0 + 1, _, by omega, by go_num, rfl, Lhd ?_, Lhd HW.out.drew⟩
      rw [Hjt.out]
      simp [ByteArray.data_append, HS.out, kindT, joinT]
     case measure => simp [intOf]; omega
   ·rw [if_neg (by omega)] at Hjt
    have n9 : ¬ 9223372036854775807 < S.size + 2 := by omega
    obtain rfl | rfl | rfl : kd = 1 ∨ kd = 2 ∨ kd = 3 := by omega
    ·have n2 : ¬ 9223372036854775807 < S.size + 2 + nm.size := by omega
     have n3 : ¬ 9223372036854775807 < S.size + 2 + nm.size + 1 := by omega
     have n4 : ¬ 9223372036854775807 < S.size + 2 + nm.size + 1 + 3 := by omega
     have HSS := Lhd (fun W (hW : Below wr.heap.size wr W) => (show W.cell? ⟨w.heap.size, 0, none⟩ = some (.string name) ∧ W.cell? ⟨w.heap.size, 1, none⟩ = some (.string src) ∧ W.cell? ⟨w.heap.size, 2, none⟩ = some (.string part) ∧ W.cell? ⟨w.heap.size, 3, none⟩ = some (.int .i64 fuel) ∧ W.cell? ⟨w.heap.size, 4, none⟩ = some (.slice (some ⟨b, o, none⟩) np cp) ∧ W.cell? ⟨w.heap.size, 5, none⟩ = some (.slice Ab nb cb) ∧ W.cell? ⟨b, o + k * 2, none⟩ = some (.string nm) ∧ W.cell? ⟨b, o + k * 2 + 1, none⟩ = some (.int .i64 1) ∧ W.cell? ⟨w1.heap.size, 1, none⟩ = some (.string ⟨#[105, 110, 116]⟩) ∧ w.heap.size < W.heap.size ∧ b < W.heap.size ∧ w1.heap.size < W.heap.size from by
      have hall := HW.out.trans (hW.mono HW.out.size)
      obtain ⟨p0, p1, p2, p3, p4, p5, p6⟩ := Hx.out W hall
      obtain ⟨q0, q1, q2⟩ := HC.out W hall
      obtain ⟨r0, r1, r2, r3, r4⟩ := Hk.out W hall
      exact ⟨p0, p1, p2, p3, p4, p5, q0, q1, r1, p6, q2, r4⟩))
     clear hSl hjj hcn
     go_upto_region 8 with (fail)
     clear x0 x1 x2 x3 x4 x5 xl
     obtain ⟨x0, x1, x2, x3, x4, x5, y0, y1, z0, xl, yl, zl⟩ := HSS.out wr (Below.refl _ _)
     go_region_held3 (fun W => W.cell? ⟨w.heap.size, 0, none⟩ = some (.string name) ∧ W.cell? ⟨w.heap.size, 1, none⟩ = some (.string src) ∧ W.cell? ⟨w.heap.size, 2, none⟩ = some (.string part) ∧ W.cell? ⟨w.heap.size, 3, none⟩ = some (.int .i64 fuel) ∧ W.cell? ⟨w.heap.size, 4, none⟩ = some (.slice (some ⟨b, o, none⟩) np cp) ∧ W.cell? ⟨w.heap.size, 5, none⟩ = some (.slice Ab nb cb) ∧ W.cell? ⟨b, o + k * 2, none⟩ = some (.string nm) ∧ W.cell? ⟨b, o + k * 2 + 1, none⟩ = some (.int .i64 1) ∧ W.cell? ⟨w1.heap.size, 1, none⟩ = some (.string ⟨#[105, 110, 116]⟩) ∧ w.heap.size < W.heap.size ∧ b < W.heap.size ∧ w1.heap.size < W.heap.size) (first | assumption | exact HSS.out _ (Below.drew (Below.refl _ _))) (fail)
     clear x0 x1 x2 x3 x4 x5 y0 y1 z0 xl yl zl
     go_wp2
     go_roundw
     case rel =>
      refine ⟨k + 1, _, by omega, by go_num, rfl, Lhd ?_, Lhd HW.out.drew⟩
      rw [Hjt.out]
      simp [ByteArray.data_append, HS.out, kindT]
     case measure => simp [intOf]; omega
    ·have n2 : ¬ 9223372036854775807 < S.size + 2 + nm.size := by omega
     have n3 : ¬ 9223372036854775807 < S.size + 2 + nm.size + 1 := by omega
     have n4 : ¬ 9223372036854775807 < S.size + 2 + nm.size + 1 + 4 := by omega
     have HSS := Lhd (fun W (hW : Below wr.heap.size wr W) => (show W.cell? ⟨w.heap.size, 0, none⟩ = some (.string name) ∧ W.cell? ⟨w.heap.size, 1, none⟩ = some (.string src) ∧ W.cell? ⟨w.heap.size, 2, none⟩ = some (.string part) ∧ W.cell? ⟨w.heap.size, 3, none⟩ = some (.int .i64 fuel) ∧ W.cell? ⟨w.heap.size, 4, none⟩ = some (.slice (some ⟨b, o, none⟩) np cp) ∧ W.cell? ⟨w.heap.size, 5, none⟩ = some (.slice Ab nb cb) ∧ W.cell? ⟨b, o + k * 2, none⟩ = some (.string nm) ∧ W.cell? ⟨b, o + k * 2 + 1, none⟩ = some (.int .i64 2) ∧ W.cell? ⟨w1.heap.size, 2, none⟩ = some (.string ⟨#[116, 101, 120, 116]⟩) ∧ w.heap.size < W.heap.size ∧ b < W.heap.size ∧ w1.heap.size < W.heap.size from by
      have hall := HW.out.trans (hW.mono HW.out.size)
      obtain ⟨p0, p1, p2, p3, p4, p5, p6⟩ := Hx.out W hall
      obtain ⟨q0, q1, q2⟩ := HC.out W hall
      obtain ⟨r0, r1, r2, r3, r4⟩ := Hk.out W hall
      exact ⟨p0, p1, p2, p3, p4, p5, q0, q1, r2, p6, q2, r4⟩))
     clear hSl hjj hcn
     go_upto_region 8 with (fail)
     clear x0 x1 x2 x3 x4 x5 xl
     obtain ⟨x0, x1, x2, x3, x4, x5, y0, y1, z0, xl, yl, zl⟩ := HSS.out wr (Below.refl _ _)
     go_region_held3 (fun W => W.cell? ⟨w.heap.size, 0, none⟩ = some (.string name) ∧ W.cell? ⟨w.heap.size, 1, none⟩ = some (.string src) ∧ W.cell? ⟨w.heap.size, 2, none⟩ = some (.string part) ∧ W.cell? ⟨w.heap.size, 3, none⟩ = some (.int .i64 fuel) ∧ W.cell? ⟨w.heap.size, 4, none⟩ = some (.slice (some ⟨b, o, none⟩) np cp) ∧ W.cell? ⟨w.heap.size, 5, none⟩ = some (.slice Ab nb cb) ∧ W.cell? ⟨b, o + k * 2, none⟩ = some (.string nm) ∧ W.cell? ⟨b, o + k * 2 + 1, none⟩ = some (.int .i64 2) ∧ W.cell? ⟨w1.heap.size, 2, none⟩ = some (.string ⟨#[116, 101, 120, 116]⟩) ∧ w.heap.size < W.heap.size ∧ b < W.heap.size ∧ w1.heap.size < W.heap.size) (first | assumption | exact HSS.out _ (Below.drew (Below.refl _ _))) (fail)
     clear x0 x1 x2 x3 x4 x5 y0 y1 z0 xl yl zl
     go_wp2
     go_roundw
     case rel =>
      refine ⟨k + 1, _, by omega, by go_num, rfl, Lhd ?_, Lhd HW.out.drew⟩
      rw [Hjt.out]
      simp [ByteArray.data_append, HS.out, kindT]
     case measure => simp [intOf]; omega
    ·have n2 : ¬ 9223372036854775807 < S.size + 2 + nm.size := by omega
     have n3 : ¬ 9223372036854775807 < S.size + 2 + nm.size + 1 := by omega
     have n4 : ¬ 9223372036854775807 < S.size + 2 + nm.size + 1 + 4 := by omega
     have HSS := Lhd (fun W (hW : Below wr.heap.size wr W) => (show W.cell? ⟨w.heap.size, 0, none⟩ = some (.string name) ∧ W.cell? ⟨w.heap.size, 1, none⟩ = some (.string src) ∧ W.cell? ⟨w.heap.size, 2, none⟩ = some (.string part) ∧ W.cell? ⟨w.heap.size, 3, none⟩ = some (.int .i64 fuel) ∧ W.cell? ⟨w.heap.size, 4, none⟩ = some (.slice (some ⟨b, o, none⟩) np cp) ∧ W.cell? ⟨w.heap.size, 5, none⟩ = some (.slice Ab nb cb) ∧ W.cell? ⟨b, o + k * 2, none⟩ = some (.string nm) ∧ W.cell? ⟨b, o + k * 2 + 1, none⟩ = some (.int .i64 3) ∧ W.cell? ⟨w1.heap.size, 3, none⟩ = some (.string ⟨#[98, 111, 111, 108]⟩) ∧ w.heap.size < W.heap.size ∧ b < W.heap.size ∧ w1.heap.size < W.heap.size from by
      have hall := HW.out.trans (hW.mono HW.out.size)
      obtain ⟨p0, p1, p2, p3, p4, p5, p6⟩ := Hx.out W hall
      obtain ⟨q0, q1, q2⟩ := HC.out W hall
      obtain ⟨r0, r1, r2, r3, r4⟩ := Hk.out W hall
      exact ⟨p0, p1, p2, p3, p4, p5, q0, q1, r3, p6, q2, r4⟩))
     clear hSl hjj hcn
     go_upto_region 8 with (fail)
     clear x0 x1 x2 x3 x4 x5 xl
     obtain ⟨x0, x1, x2, x3, x4, x5, y0, y1, z0, xl, yl, zl⟩ := HSS.out wr (Below.refl _ _)
     go_region_held3 (fun W => W.cell? ⟨w.heap.size, 0, none⟩ = some (.string name) ∧ W.cell? ⟨w.heap.size, 1, none⟩ = some (.string src) ∧ W.cell? ⟨w.heap.size, 2, none⟩ = some (.string part) ∧ W.cell? ⟨w.heap.size, 3, none⟩ = some (.int .i64 fuel) ∧ W.cell? ⟨w.heap.size, 4, none⟩ = some (.slice (some ⟨b, o, none⟩) np cp) ∧ W.cell? ⟨w.heap.size, 5, none⟩ = some (.slice Ab nb cb) ∧ W.cell? ⟨b, o + k * 2, none⟩ = some (.string nm) ∧ W.cell? ⟨b, o + k * 2 + 1, none⟩ = some (.int .i64 3) ∧ W.cell? ⟨w1.heap.size, 3, none⟩ = some (.string ⟨#[98, 111, 111, 108]⟩) ∧ w.heap.size < W.heap.size ∧ b < W.heap.size ∧ w1.heap.size < W.heap.size) (first | assumption | exact HSS.out _ (Below.drew (Below.refl _ _))) (fail)
     clear x0 x1 x2 x3 x4 x5 y0 y1 z0 xl yl zl
     go_wp2
     go_roundw
     case rel =>
      refine ⟨k + 1, _, by omega, by go_num, rfl, Lhd ?_, Lhd HW.out.drew⟩
      rw [Hjt.out]
      simp [ByteArray.data_append, HS.out, kindT]
     case measure => simp [intOf]; omega
  ·obtain rfl : k = np := Nat.le_antisymm hk hge
   have e1 : (params.map paramT).take k = params.map paramT := List.take_of_length_le (by rw [List.length_map, Hne.out]; exact Nat.le_refl _)
   rw [e1] at HS hSl
   clear e1
   cases c1 : noS part <;> cases c2 : noS src <;> by_cases c3 : fuel = 100
   ·have s1 := str_some c1
    have s2 := str_some c2
    have q3 : (fuel == 100) = true := by simp [c3]
    have n2 : ¬ 9223372036854775807 < S.size + 1 := by omega
    have n3 : ¬ 9223372036854775807 < S.size + 1 + 4 := by omega
    have n4 : ¬ 9223372036854775807 < S.size + 1 + 4 + part.size := by omega
    have n5 : ¬ 9223372036854775807 < S.size + 1 + 4 + part.size + 6 := by omega
    have n6 : ¬ 9223372036854775807 < S.size + 1 + 4 + part.size + 6 + src.size := by omega
    have n7 : ¬ 9223372036854775807 < S.size + 1 + 4 + part.size + 6 + src.size + 1 := by omega
    have n8 : ¬ 9223372036854775807 < S.size + 1 + 4 + part.size + 6 + src.size + 1 + S2.size := by omega
    clear hSl hpl
    go_wp2_with (go_at_call 43; refine (HR.out _ HW.out).mono ?_; rintro x wc ⟨rfl, hbc⟩)
    have HBc := Lhd hbc
    clear hbc
    go_ret
    refine ⟨ret_str ?_, Hb2.out.trans (HBc.out.mono Hb2.out.size)⟩
    rw [← HTX.out, Hfull.out]
    exact Array.ext' (by simp [ByteArray.data_append, HS.out, c1, c2, c3])
   ·have s1 := str_some c1
    have s2 := str_some c2
    have q3 : (fuel == 100) = false := by simp [c3]
    have n2 : ¬ 9223372036854775807 < S.size + 1 := by omega
    have n3 : ¬ 9223372036854775807 < S.size + 1 + 4 := by omega
    have n4 : ¬ 9223372036854775807 < S.size + 1 + 4 + part.size := by omega
    have n5 : ¬ 9223372036854775807 < S.size + 1 + 4 + part.size + 6 := by omega
    have n6 : ¬ 9223372036854775807 < S.size + 1 + 4 + part.size + 6 + src.size := by omega
    have n7 : ¬ 9223372036854775807 < S.size + 1 + 4 + part.size + 6 + src.size + 6 := by omega
    have n8 : ¬ 9223372036854775807 < S.size + 1 + 4 + part.size + 6 + src.size + 6 + NN.size := by omega
    have n9 : ¬ 9223372036854775807 < S.size + 1 + 4 + part.size + 6 + src.size + 6 + NN.size + 1 := by omega
    have n10 : ¬ 9223372036854775807 < S.size + 1 + 4 + part.size + 6 + src.size + 6 + NN.size + 1 + S2.size := by omega
    clear hSl hpl
    go_wp2_with (go_at_call 42; refine (Hcp.out _).mono ?_)
    rintro x wb ⟨rfl, hbb⟩
    have HBb := Lhd (HW.out.trans (hbb.mono HW.out.size))
    clear x0 x1 x2 x3 x4 x5 xl hbb
    obtain ⟨x0, x1, x2, x3, x4, x5, xl⟩ := Hx.out _ HBb.out
    go_wp2_with (go_at_call 43; refine (HR.out _ HBb.out).mono ?_; rintro x wc ⟨rfl, hbc⟩)
    have HBc := Lhd hbc
    clear hbc
    go_ret
    refine ⟨ret_str ?_, Hb2.out.trans (HBc.out.mono Hb2.out.size)⟩
    rw [← HTX.out, Hfull.out]
    exact Array.ext' (by simp [ByteArray.data_append, HS.out, c1, c2, c3, HNN.out])
   ·have s1 := str_some c1
    have s2 := str_empty c2
    have q3 : (fuel == 100) = true := by simp [c3]
    have n2 : ¬ 9223372036854775807 < S.size + 1 := by omega
    have n3 : ¬ 9223372036854775807 < S.size + 1 + 4 := by omega
    have n4 : ¬ 9223372036854775807 < S.size + 1 + 4 + part.size := by omega
    have n5 : ¬ 9223372036854775807 < S.size + 1 + 4 + part.size + 1 := by omega
    have n6 : ¬ 9223372036854775807 < S.size + 1 + 4 + part.size + 1 + S2.size := by omega
    clear hSl hpl
    go_wp2_with (go_at_call 43; refine (HR.out _ HW.out).mono ?_; rintro x wc ⟨rfl, hbc⟩)
    have HBc := Lhd hbc
    clear hbc
    go_ret
    refine ⟨ret_str ?_, Hb2.out.trans (HBc.out.mono Hb2.out.size)⟩
    rw [← HTX.out, Hfull.out]
    exact Array.ext' (by simp [ByteArray.data_append, HS.out, c1, c2, c3])
   ·have s1 := str_some c1
    have s2 := str_empty c2
    have q3 : (fuel == 100) = false := by simp [c3]
    have n2 : ¬ 9223372036854775807 < S.size + 1 := by omega
    have n3 : ¬ 9223372036854775807 < S.size + 1 + 4 := by omega
    have n4 : ¬ 9223372036854775807 < S.size + 1 + 4 + part.size := by omega
    have n5 : ¬ 9223372036854775807 < S.size + 1 + 4 + part.size + 6 := by omega
    have n6 : ¬ 9223372036854775807 < S.size + 1 + 4 + part.size + 6 + NN.size := by omega
    have n7 : ¬ 9223372036854775807 < S.size + 1 + 4 + part.size + 6 + NN.size + 1 := by omega
    have n8 : ¬ 9223372036854775807 < S.size + 1 + 4 + part.size + 6 + NN.size + 1 + S2.size := by omega
    clear hSl hpl
    go_wp2_with (go_at_call 42; refine (Hcp.out _).mono ?_)
    rintro x wb ⟨rfl, hbb⟩
    have HBb := Lhd (HW.out.trans (hbb.mono HW.out.size))
    clear x0 x1 x2 x3 x4 x5 xl hbb
    obtain ⟨x0, x1, x2, x3, x4, x5, xl⟩ := Hx.out _ HBb.out
    go_wp2_with (go_at_call 43; refine (HR.out _ HBb.out).mono ?_; rintro x wc ⟨rfl, hbc⟩)
    have HBc := Lhd hbc
    clear hbc
    go_ret
    refine ⟨ret_str ?_, Hb2.out.trans (HBc.out.mono Hb2.out.size)⟩
    rw [← HTX.out, Hfull.out]
    exact Array.ext' (by simp [ByteArray.data_append, HS.out, c1, c2, c3, HNN.out])
   ·have s1 := str_empty c1
    have s2 := str_some c2
    have q3 : (fuel == 100) = true := by simp [c3]
    have n2 : ¬ 9223372036854775807 < S.size + 1 := by omega
    have n3 : ¬ 9223372036854775807 < S.size + 1 + 6 := by omega
    have n4 : ¬ 9223372036854775807 < S.size + 1 + 6 + src.size := by omega
    have n5 : ¬ 9223372036854775807 < S.size + 1 + 6 + src.size + 1 := by omega
    have n6 : ¬ 9223372036854775807 < S.size + 1 + 6 + src.size + 1 + S2.size := by omega
    clear hSl hpl
    go_wp2_with (go_at_call 43; refine (HR.out _ HW.out).mono ?_; rintro x wc ⟨rfl, hbc⟩)
    have HBc := Lhd hbc
    clear hbc
    go_ret
    refine ⟨ret_str ?_, Hb2.out.trans (HBc.out.mono Hb2.out.size)⟩
    rw [← HTX.out, Hfull.out]
    exact Array.ext' (by simp [ByteArray.data_append, HS.out, c1, c2, c3])
   ·have s1 := str_empty c1
    have s2 := str_some c2
    have q3 : (fuel == 100) = false := by simp [c3]
    have n2 : ¬ 9223372036854775807 < S.size + 1 := by omega
    have n3 : ¬ 9223372036854775807 < S.size + 1 + 6 := by omega
    have n4 : ¬ 9223372036854775807 < S.size + 1 + 6 + src.size := by omega
    have n5 : ¬ 9223372036854775807 < S.size + 1 + 6 + src.size + 6 := by omega
    have n6 : ¬ 9223372036854775807 < S.size + 1 + 6 + src.size + 6 + NN.size := by omega
    have n7 : ¬ 9223372036854775807 < S.size + 1 + 6 + src.size + 6 + NN.size + 1 := by omega
    have n8 : ¬ 9223372036854775807 < S.size + 1 + 6 + src.size + 6 + NN.size + 1 + S2.size := by omega
    clear hSl hpl
    go_wp2_with (go_at_call 42; refine (Hcp.out _).mono ?_)
    rintro x wb ⟨rfl, hbb⟩
    have HBb := Lhd (HW.out.trans (hbb.mono HW.out.size))
    clear x0 x1 x2 x3 x4 x5 xl hbb
    obtain ⟨x0, x1, x2, x3, x4, x5, xl⟩ := Hx.out _ HBb.out
    go_wp2_with (go_at_call 43; refine (HR.out _ HBb.out).mono ?_; rintro x wc ⟨rfl, hbc⟩)
    have HBc := Lhd hbc
    clear hbc
    go_ret
    refine ⟨ret_str ?_, Hb2.out.trans (HBc.out.mono Hb2.out.size)⟩
    rw [← HTX.out, Hfull.out]
    exact Array.ext' (by simp [ByteArray.data_append, HS.out, c1, c2, c3, HNN.out])
   ·have s1 := str_empty c1
    have s2 := str_empty c2
    have q3 : (fuel == 100) = true := by simp [c3]
    have n2 : ¬ 9223372036854775807 < S.size + 1 := by omega
    have n3 : ¬ 9223372036854775807 < S.size + 1 + 1 := by omega
    have n4 : ¬ 9223372036854775807 < S.size + 1 + 1 + S2.size := by omega
    clear hSl hpl
    go_wp2_with (go_at_call 43; refine (HR.out _ HW.out).mono ?_; rintro x wc ⟨rfl, hbc⟩)
    have HBc := Lhd hbc
    clear hbc
    go_ret
    refine ⟨ret_str ?_, Hb2.out.trans (HBc.out.mono Hb2.out.size)⟩
    rw [← HTX.out, Hfull.out]
    exact Array.ext' (by simp [ByteArray.data_append, HS.out, c1, c2, c3])
   ·have s1 := str_empty c1
    have s2 := str_empty c2
    have q3 : (fuel == 100) = false := by simp [c3]
    have n2 : ¬ 9223372036854775807 < S.size + 1 := by omega
    have n3 : ¬ 9223372036854775807 < S.size + 1 + 6 := by omega
    have n4 : ¬ 9223372036854775807 < S.size + 1 + 6 + NN.size := by omega
    have n5 : ¬ 9223372036854775807 < S.size + 1 + 6 + NN.size + 1 := by omega
    have n6 : ¬ 9223372036854775807 < S.size + 1 + 6 + NN.size + 1 + S2.size := by omega
    clear hSl hpl
    go_wp2_with (go_at_call 42; refine (Hcp.out _).mono ?_)
    rintro x wb ⟨rfl, hbb⟩
    have HBb := Lhd (HW.out.trans (hbb.mono HW.out.size))
    clear x0 x1 x2 x3 x4 x5 xl hbb
    obtain ⟨x0, x1, x2, x3, x4, x5, xl⟩ := Hx.out _ HBb.out
    go_wp2_with (go_at_call 43; refine (HR.out _ HBb.out).mono ?_; rintro x wc ⟨rfl, hbc⟩)
    have HBc := Lhd hbc
    clear hbc
    go_ret
    refine ⟨ret_str ?_, Hb2.out.trans (HBc.out.mono Hb2.out.size)⟩
    rw [← HTX.out, Hfull.out]
    exact Array.ext' (by simp [ByteArray.data_append, HS.out, c1, c2, c3, HNN.out])
end Go.Proofs.YtmgldjpdhpopnaaGreatDoor
