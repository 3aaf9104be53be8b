/- Parts of this proof, one behind the other: PrsG. -/
import Derived.Test.YtjpiedpmnnepgaaGreatDoorPz15
import Derived.Test.YtjpiedpmnnepgaaGreatDoorPz7
import Derived.Deep.RegionHeld3
set_option maxRecDepth 1000000
set_option maxHeartbeats 40000000
namespace Go.Proofs.YtjpiedpmnnepgaaGreatDoor
open Go.RowKit Go.Afx
theorem cos_wrote {F : Nat → Prop} {n c g : Nat} {w : World} {A : Option Addr} {xs : List Co} (h : LsAt F w 2 CoRow A n c xs) (hF : ∀ k, F k → k < g) {k : Nat} (hk : k < n) :
  ∃ b o x, A = some ⟨b, o, none⟩ ∧ xs[k]? = some x ∧ ∀ W, Wrote g w W → b < W.heap.size ∧ W.cell? ⟨b, o + k * 2, none⟩ = some (.string x.name) ∧ W.cell? ⟨b, o + k * 2 + 1, none⟩ = some (.int .i64 x.kind) := by
 obtain ⟨b, o, r, x, hA, hb, hFb, hx, _, ⟨rfl, _, _⟩, hc⟩ := h.get hk
 exact ⟨b, o, x, hA, hx, fun W hW => ⟨Nat.lt_of_lt_of_le hb hW.1.size, (hW.1.cell (p := ⟨b, o + k * 2, none⟩) (hF b hFb)).trans (by simpa using hc 0 _ rfl), (hW.1.cell (p := ⟨b, o + k * 2 + 1, none⟩) (hF b hFb)).trans (hc 1 _ rfl)⟩⟩
theorem coBox {w : World} {g : Nat} {T : TypeId} {v0 v1 : Value} (h : IsBlk w g T #[v0, v1]) : w.cell? ⟨g, 0, none⟩ = some v0 ∧ w.cell? ⟨g, 1, none⟩ = some v1 ∧ g < w.heap.size := by
 have h0 := h.cell 0; have h1 := h.cell 1
 simp at h0 h1
 exact ⟨h0, h1, h.lt⟩
theorem kindT_le (k : Int) : (kindT k).length ≤ 4 := by
 unfold kindT
 split
 ·decide
 ·split <;> decide
theorem proc_does (F : Nat → Prop) (name src part : ByteArray) (fuel : Int) (params : List Co) (Ap Ab : Option Addr) (np cp nb cb : Nat) (TB : List UInt8) (BB : Bool) (g : Nat) (t : List UInt8) (br : Bool) (w : World) (h : WtAt g t br w) (hp : LsAt F w 2 CoRow Ap np cp params) (hks : ∀ c ∈ params, 1 ≤ c.kind ∧ c.kind ≤ 3) (hF : ∀ k, F k → k < g) (hf0 : 0 ≤ fuel) (hf1 : fuel ≤ 100000)
  (hB : Does g w 76 #[.pointer (some ⟨g, 0, none⟩), .slice Ab nb cb, .int .i64 0] TB BB)
  (hlen : t.length + ([112, 114, 111, 99, 32] ++ name.data.toList ++ [40] ++ joinT (params.map paramT) ++ [41] ++ (if noS part then [] else [32, 111, 110, 32] ++ part.data.toList) ++ (if noS src then [] else [32, 102, 114, 111, 109, 32] ++ src.data.toList) ++ (if fuel = 100 then [] else [32, 102, 117, 101, 108, 32] ++ decS fuel) ++ [32] ++ TB).length ≤ 1000000000) :
  Calls Tryz.prog 36 #[.pointer (some ⟨g, 0, none⟩), .agg #[.string name, .string src, .string part, .int .i64 fuel, .slice Ap np cp, .slice Ab nb cb]] w fun e' w' => e' = .returned (.tuple #[]) ∧ WtAt g (t ++ ([112, 114, 111, 99, 32] ++ name.data.toList ++ [40] ++ joinT (params.map paramT) ++ [41] ++ (if noS part then [] else [32, 111, 110, 32] ++ part.data.toList) ++ (if noS src then [] else [32, 102, 114, 111, 109, 32] ++ src.data.toList) ++ (if fuel = 100 then [] else [32, 102, 117, 101, 108, 32] ++ decS fuel) ++ [32] ++ TB)) (br || BB) w' ∧ Wrote g w w' := by
 generalize hTX : ([112, 114, 111, 99, 32] ++ name.data.toList ++ [40] ++ joinT (params.map paramT) ++ [41] ++ (if noS part then [] else [32, 111, 110, 32] ++ part.data.toList) ++ (if noS src then [] else [32, 102, 114, 111, 109, 32] ++ src.data.toList) ++ (if fuel = 100 then [] else [32, 102, 117, 101, 108, 32] ++ decS fuel) ++ [32] ++ TB) = TX
 have HTX := Lhd hTX
 clear hTX
 have hn := LsAt.n_le hp
 have hne := LsAt.len hp
 have Hget := Lhd (fun k (hk : k < np) => cos_wrote hp hF hk)
 have Hks := Lhd hks
 have Hcp := Lhd (fun W => calcPrint_any fuel W hf0 (by omega))
 have HB := Lhd hB
 obtain ⟨w1, Hw1⟩ : ∃ w1, Hid (w1 = w.alloc (.cells #[.string name, .string src, .string part, .int .i64 fuel, .slice Ap np cp, .slice Ab nb cb] 50)) := ⟨_, rfl⟩
 have hb1 : Below w.heap.size w w1 := by rw [Hw1.out]; exact (Below.refl _ _).alloc (Nat.le_refl _) _
 have hk1 : IsBlk w1 w.heap.size 50 #[.string name, .string src, .string part, .int .i64 fuel, .slice Ap np cp, .slice Ab nb cb] := by rw [Hw1.out]; exact IsBlk.laid _ _ _
 have Hr0 := Lhd (Wrote.of_below (Nat.le_of_lt h.lt) hb1 : Wrote g w w1)
 have Hx := Lhd (fun W (hW : Wrote g w1 W) => box6 (hW.2.2 _ _ _ (by decide) (by decide) hk1))
 have hwt1 := h.below hb1
 have Hlen := Lhd hlen
 obtain ⟨x0, x1, x2, x3, x4, x5, xl⟩ := Hx.out _ (Wrote.refl _ _)
 clear hk1 h hlen hb1 hp hks hF hB hf0 hf1
 go_enter Tryz.func36, Tryz.ntmps36
 go_upto_region 1 with (fail)
 rw [← Hw1.out]
 go_wp2_with (fail)
 refine (put_new g 3 _ _ [⟨#[112, 114, 111, 99, 32]⟩, name, ⟨#[40]⟩] _ hwt1 rfl (by decide) (by have h9 := Hlen.out; simp [catL] at h9 ⊢; omega)).mono ?_
 rintro e' w2 ⟨rfl, hwt2, hr2⟩
 have e1 : t ++ catL [⟨#[112, 114, 111, 99, 32]⟩, name, ⟨#[40]⟩] = t ++ ([112, 114, 111, 99, 32] ++ name.data.toList ++ [40]) := by simp [catL]
 rw [e1] at hwt2
 have Hl := Lhd (show (t ++ ([112, 114, 111, 99, 32] ++ name.data.toList ++ [40])).length + (joinT (params.map paramT)).length + ([41] ++ (if noS part then [] else [32, 111, 110, 32] ++ part.data.toList) ++ (if noS src then [] else [32, 102, 114, 111, 109, 32] ++ src.data.toList) ++ (if fuel = 100 then [] else [32, 102, 117, 101, 108, 32] ++ decS fuel) ++ [32] ++ TB).length ≤ 1000000000 from by have h9 := Hlen.out; simp only [List.length_append] at h9 ⊢; omega)
 have He1 := Lhd (show t ++ ([112, 114, 111, 99, 32] ++ name.data.toList ++ [40] ++ joinT (params.map paramT) ++ [41] ++ (if noS part then [] else [32, 111, 110, 32] ++ part.data.toList) ++ (if noS src then [] else [32, 102, 114, 111, 109, 32] ++ src.data.toList) ++ (if fuel = 100 then [] else [32, 102, 117, 101, 108, 32] ++ decS fuel) ++ [32] ++ TB) = t ++ ([112, 114, 111, 99, 32] ++ name.data.toList ++ [40]) ++ joinT (params.map paramT) ++ ([41] ++ (if noS part then [] else [32, 111, 110, 32] ++ part.data.toList) ++ (if noS src then [] else [32, 102, 114, 111, 109, 32] ++ src.data.toList) ++ (if fuel = 100 then [] else [32, 102, 117, 101, 108, 32] ++ decS fuel) ++ [32] ++ TB) from by simp)
 generalize t ++ ([112, 114, 111, 99, 32] ++ name.data.toList ++ [40]) = P at *
 have HR2 := Lhd hr2
 have Hw2 := Lhd hwt2
 clear x0 x1 x2 x3 x4 x5 xl hwt1 hr2 hwt2 e1
 obtain ⟨x0, x1, x2, x3, x4, x5, xl⟩ := Hx.out _ HR2.out
 have Hx2 := Lhd (fun W (hW : Wrote g w2 W) => Hx.out W (HR2.out.trans hW))
 go_wp2
 go_loopw [14] (fun i wr => ∃ k : Nat, k ≤ np ∧ i = .int .i64 k ∧ Hid (WtAt g (P ++ joinT ((params.map paramT).take k)) br wr) ∧ Hid (Wrote g w2 wr)) (fun i _ => np - (intOf i).toNat)
 case atStart => exact ⟨0, Nat.zero_le _, rfl, Lhd (by simpa [joinT] using Hw2.out), Lhd (Wrote.refl _ _)⟩
 case round =>
  obtain ⟨k, hk, rfl, HW, HR⟩ := hrel
  rcases Nat.lt_or_ge k np with hlt | hge
  ·obtain ⟨b, o, c, rfl, he, hat⟩ := Hget.out k hlt
   obtain ⟨hbl, z0, z1⟩ := hat _ (Hr0.out.trans (HR2.out.trans HR.out))
   have hlm : k < (params.map paramT).length := by rw [List.length_map]; omega
   have hjl := joinT_take_le hlm
   have hjt := joinT_take hlm
   have hgt : (params.map paramT)[k]'hlm = paramT c := by
    obtain ⟨h1, h2⟩ := List.getElem?_eq_some_iff.1 he
    rw [List.getElem_map, h2]
   rw [hgt] at hjl hjt
   obtain ⟨k1, k2⟩ := Hks.out c (List.mem_of_getElem? he)
   obtain ⟨nm, kd⟩ := c
   have k1 : 1 ≤ kd := k1
   have k2 : kd ≤ 3 := k2
   have hpt : paramT ⟨nm, kd⟩ = nm.data.toList ++ [32] ++ kindT kd := rfl
   rw [hpt] at hjl hjt
   have Hl4 := Lhd (show (P ++ joinT ((params.map paramT).take k)).length + (if k = 0 then 0 else 2) + (nm.data.toList ++ [32] ++ kindT kd).length ≤ 1000000000 from by have := Hl.out; rw [List.length_append]; omega)
   have Hjt := Lhd hjt
   obtain ⟨w4, Hw4⟩ : ∃ w4, Hid (w4 = wr.alloc (.cells #[.string nm, .int .i64 kd] 93)) := ⟨_, rfl⟩
   have hb4 : Below wr.heap.size wr w4 := by rw [Hw4.out]; exact (Below.refl _ _).alloc (Nat.le_refl _) _
   have hk4 : IsBlk w4 wr.heap.size 93 #[.string nm, .int .i64 kd] := by rw [Hw4.out]; exact IsBlk.laid _ _ _
   have hwt4 := HW.out.below hb4
   have hr4 : Wrote g wr w4 := Wrote.of_below (Nat.le_of_lt HW.out.lt) hb4
   have HR4 := Lhd (HR.out.trans hr4)
   have Hc := Lhd (fun W (hW : Wrote g w4 W) => coBox (hW.2.2 _ _ _ (by decide) (by decide) hk4))
   clear hb4 hk4 hr4 hjl hjt hgt he hlm hat hpt
   go_upto_region 5 with (fail)
   rw [← Hw4.out]
   clear z0 z1 hbl
   rcases Nat.eq_zero_or_pos k with rfl | h0
   ·rw [if_pos rfl] at Hl4 Hjt
    obtain ⟨y0, y1, yl⟩ := Hc.out _ (Wrote.refl _ _)
    have Hwt := Lhd hwt4
    have HRc := Lhd (Wrote.refl g w4)
    clear hwt4
    obtain rfl | rfl | rfl : kd = 1 ∨ kd = 2 ∨ kd = 3 := by omega
    ·have i0 : IntKind.i64.wrap 0 = 0 := by decide
     have hlK := (Below.refl w4.heap.size w4).drew.alloc (Nat.le_refl _) (.cells #[.string ⟨#[105, 110, 116]⟩, .string ⟨#[116, 101, 120, 116]⟩, .string ⟨#[98, 111, 111, 108]⟩] 9)
     have hwtK := Hwt.out.below hlK
     have HRK := Lhd (HRc.out.trans (Wrote.of_below (Nat.le_of_lt Hwt.out.lt) hlK))
     have hSK := Hc.out _ HRK.out
     have hl3 := ((((Below.refl w4.heap.size w4).alloc (Nat.le_refl _) (.cells #[.string ⟨#[105, 110, 116]⟩, .string ⟨#[116, 101, 120, 116]⟩, .string ⟨#[98, 111, 111, 108]⟩] 9)).alloc (by simp) (.cells #[.string nm, .string ⟨#[32]⟩, .string ⟨#[105, 110, 116]⟩] 9)).drew)
     have hwt3 := Hwt.out.below hl3
     have hblk : IsBlk (((w4.alloc (.cells #[.string ⟨#[105, 110, 116]⟩, .string ⟨#[116, 101, 120, 116]⟩, .string ⟨#[98, 111, 111, 108]⟩] 9)).alloc (.cells #[.string nm, .string ⟨#[32]⟩, .string ⟨#[105, 110, 116]⟩] 9)).drew) (w4.heap.size + 1) 9 #[.string nm, .string ⟨#[32]⟩, .string ⟨#[105, 110, 116]⟩] := by
      show IsBlk ((w4.alloc (.cells #[.string ⟨#[105, 110, 116]⟩, .string ⟨#[116, 101, 120, 116]⟩, .string ⟨#[98, 111, 111, 108]⟩] 9)).alloc (.cells #[.string nm, .string ⟨#[32]⟩, .string ⟨#[105, 110, 116]⟩] 9)) (w4.heap.size + 1) 9 #[.string nm, .string ⟨#[32]⟩, .string ⟨#[105, 110, 116]⟩]
      exact laid_at (by simp) _ _
     have HP := Lhd (put_any g (w4.heap.size + 1) 3 _ br [nm, ⟨#[32]⟩, ⟨#[105, 110, 116]⟩] (((w4.alloc (.cells #[.string ⟨#[105, 110, 116]⟩, .string ⟨#[116, 101, 120, 116]⟩, .string ⟨#[98, 111, 111, 108]⟩] 9)).alloc (.cells #[.string nm, .string ⟨#[32]⟩, .string ⟨#[105, 110, 116]⟩] 9)).drew) hwt3 hblk rfl (by decide) (by have h9 := Hl4.out; simp [catL, kindT] at h9 ⊢; omega))
     have HR3 := Lhd (HRc.out.trans (Wrote.of_below (Nat.le_of_lt Hwt.out.lt) hl3))
     have hS3 := Hc.out _ HR3.out
     have Hzk := Lhd hlK.size
     have Hz3 := Lhd hl3.size
     have HSS : (fun W => W.cell? ⟨wr.heap.size, 0, none⟩ = some (.string nm) ∧ W.cell? ⟨wr.heap.size, 1, none⟩ = some (.int .i64 1) ∧ wr.heap.size < W.heap.size ∧ w4.heap.size ≤ W.heap.size) w4.drew := ⟨y0, y1, yl, Nat.le_refl _⟩
     have HSS2 : (fun W => W.cell? ⟨wr.heap.size, 0, none⟩ = some (.string nm) ∧ W.cell? ⟨wr.heap.size, 1, none⟩ = some (.int .i64 1) ∧ wr.heap.size < W.heap.size ∧ w4.heap.size ≤ W.heap.size) (w4.drew.alloc (.cells #[.string ⟨#[105, 110, 116]⟩, .string ⟨#[116, 101, 120, 116]⟩, .string ⟨#[98, 111, 111, 108]⟩] 9)) := ⟨hSK.1, hSK.2.1, hSK.2.2, Hzk.out⟩
     have HSS3 : (fun W => W.cell? ⟨wr.heap.size, 0, none⟩ = some (.string nm) ∧ W.cell? ⟨wr.heap.size, 1, none⟩ = some (.int .i64 1) ∧ wr.heap.size < W.heap.size ∧ w4.heap.size ≤ W.heap.size) (((w4.alloc (.cells #[.string ⟨#[105, 110, 116]⟩, .string ⟨#[116, 101, 120, 116]⟩, .string ⟨#[98, 111, 111, 108]⟩] 9)).alloc (.cells #[.string nm, .string ⟨#[32]⟩, .string ⟨#[105, 110, 116]⟩] 9)).drew) := ⟨hS3.1, hS3.2.1, hS3.2.2, Hz3.out⟩
     clear hlK hl3 hSK hS3 hwtK hwt3 hblk
     go_upto_region 7 with (fail)
     refine wp_region_noPanic ?_
     refine wp_region_held (S := (fun W => W.cell? ⟨wr.heap.size, 0, none⟩ = some (.string nm) ∧ W.cell? ⟨wr.heap.size, 1, none⟩ = some (.int .i64 1) ∧ wr.heap.size < W.heap.size ∧ w4.heap.size ≤ W.heap.size)) (by kernel_rfl) ?_
     change wpAnyH _ _ _ _ _ _ _ _ (World.drew _)
     refine tk 0 (.pointer (some ⟨g, 0, none⟩)) rfl HSS ?_
     go_simp
     refine tk 1 (.pointer (some ⟨wr.heap.size, 0, none⟩)) rfl HSS ?_
     go_simp
     refine tk 2 (.string nm) rfl HSS ?_
     go_simp
     refine tk 4 (.pointer (some ⟨wr.heap.size, 1, none⟩)) rfl HSS ?_
     go_simp
     refine tk 5 (.int .i64 1) rfl HSS ?_
     go_simp
     refine tk 6 (.int .i64 0) rfl HSS ?_
     go_simp
     refine wpAnyH_ready (rs := [3]) (by kernel_rfl) (by simp) ?_
     refine AllReadyH.cons rfl (fun K hK => ?_) AllReadyH.nil
     go_simp
     refine hK.out _ _ HSS2 (fun _ => ?_); clear hK K
     refine tk 7 (.pointer (some ⟨w4.heap.size, 0, none⟩)) rfl HSS2 ?_
     go_simp
     refine wpAnyH_ready (rs := [8]) (by kernel_rfl) (by simp) ?_
     refine AllReadyH.cons rfl (fun K hK => ?_) AllReadyH.nil
     go_simp
     refine hK.out _ _ HSS2 (fun _ => ?_); clear hK K
     refine wpAnyH_ready (rs := [9]) (by kernel_rfl) (by simp) ?_
     refine AllReadyH.cons rfl (fun K hK => ?_) AllReadyH.nil
     go_simp
     refine hK.out _ _ HSS3 (fun _ => ?_); clear hK K
     refine wpAnyH_ready (rs := [10]) (by kernel_rfl) (by simp) ?_
     refine AllReadyH.cons rfl (fun K hK => ?_) AllReadyH.nil
     go_simp
     with_reducible refine HP.out.mono ?_
     rintro e' w7 ⟨rfl, hwt7, hr7⟩
     have H7 := Lhd (And.intro hwt7 (HR3.out.trans hr7))
     have hS7 := Hc.out _ H7.out.2
     have Hz7 := Lhd hr7.1.size
     clear hwt7 hr7
     go_simp
     refine hK.out _ _ ⟨hS7.1, hS7.2.1, hS7.2.2, Nat.le_trans Hz3.out Hz7.out⟩ (fun _ => ?_); clear hK K
     refine wpAnyH_done (by kernel_rfl) ?_ _
     refine NoPanic.normal ?_
     clear HSS HSS2 HSS3 hS7 y0 y1 yl
     go_wp2
     go_roundw
     case rel =>
      refine ⟨0 + 1, by omega, by go_num, Lhd ?_, Lhd (HR4.out.trans H7.out.2)⟩
      rw [Hjt.out]
      simpa [catL, kindT, joinT] using H7.out.1
     case measure => simp [intOf]; omega
    ·have i0 : IntKind.i64.wrap 1 = 1 := by decide
     have hlK := (Below.refl w4.heap.size w4).drew.alloc (Nat.le_refl _) (.cells #[.string ⟨#[105, 110, 116]⟩, .string ⟨#[116, 101, 120, 116]⟩, .string ⟨#[98, 111, 111, 108]⟩] 9)
     have hwtK := Hwt.out.below hlK
     have HRK := Lhd (HRc.out.trans (Wrote.of_below (Nat.le_of_lt Hwt.out.lt) hlK))
     have hSK := Hc.out _ HRK.out
     have hl3 := ((((Below.refl w4.heap.size w4).alloc (Nat.le_refl _) (.cells #[.string ⟨#[105, 110, 116]⟩, .string ⟨#[116, 101, 120, 116]⟩, .string ⟨#[98, 111, 111, 108]⟩] 9)).alloc (by simp) (.cells #[.string nm, .string ⟨#[32]⟩, .string ⟨#[116, 101, 120, 116]⟩] 9)).drew)
     have hwt3 := Hwt.out.below hl3
     have hblk : IsBlk (((w4.alloc (.cells #[.string ⟨#[105, 110, 116]⟩, .string ⟨#[116, 101, 120, 116]⟩, .string ⟨#[98, 111, 111, 108]⟩] 9)).alloc (.cells #[.string nm, .string ⟨#[32]⟩, .string ⟨#[116, 101, 120, 116]⟩] 9)).drew) (w4.heap.size + 1) 9 #[.string nm, .string ⟨#[32]⟩, .string ⟨#[116, 101, 120, 116]⟩] := by
      show IsBlk ((w4.alloc (.cells #[.string ⟨#[105, 110, 116]⟩, .string ⟨#[116, 101, 120, 116]⟩, .string ⟨#[98, 111, 111, 108]⟩] 9)).alloc (.cells #[.string nm, .string ⟨#[32]⟩, .string ⟨#[116, 101, 120, 116]⟩] 9)) (w4.heap.size + 1) 9 #[.string nm, .string ⟨#[32]⟩, .string ⟨#[116, 101, 120, 116]⟩]
      exact laid_at (by simp) _ _
     have HP := Lhd (put_any g (w4.heap.size + 1) 3 _ br [nm, ⟨#[32]⟩, ⟨#[116, 101, 120, 116]⟩] (((w4.alloc (.cells #[.string ⟨#[105, 110, 116]⟩, .string ⟨#[116, 101, 120, 116]⟩, .string ⟨#[98, 111, 111, 108]⟩] 9)).alloc (.cells #[.string nm, .string ⟨#[32]⟩, .string ⟨#[116, 101, 120, 116]⟩] 9)).drew) hwt3 hblk rfl (by decide) (by have h9 := Hl4.out; simp [catL, kindT] at h9 ⊢; omega))
     have HR3 := Lhd (HRc.out.trans (Wrote.of_below (Nat.le_of_lt Hwt.out.lt) hl3))
     have hS3 := Hc.out _ HR3.out
     have Hzk := Lhd hlK.size
     have Hz3 := Lhd hl3.size
     have HSS : (fun W => W.cell? ⟨wr.heap.size, 0, none⟩ = some (.string nm) ∧ W.cell? ⟨wr.heap.size, 1, none⟩ = some (.int .i64 2) ∧ wr.heap.size < W.heap.size ∧ w4.heap.size ≤ W.heap.size) w4.drew := ⟨y0, y1, yl, Nat.le_refl _⟩
     have HSS2 : (fun W => W.cell? ⟨wr.heap.size, 0, none⟩ = some (.string nm) ∧ W.cell? ⟨wr.heap.size, 1, none⟩ = some (.int .i64 2) ∧ wr.heap.size < W.heap.size ∧ w4.heap.size ≤ W.heap.size) (w4.drew.alloc (.cells #[.string ⟨#[105, 110, 116]⟩, .string ⟨#[116, 101, 120, 116]⟩, .string ⟨#[98, 111, 111, 108]⟩] 9)) := ⟨hSK.1, hSK.2.1, hSK.2.2, Hzk.out⟩
     have HSS3 : (fun W => W.cell? ⟨wr.heap.size, 0, none⟩ = some (.string nm) ∧ W.cell? ⟨wr.heap.size, 1, none⟩ = some (.int .i64 2) ∧ wr.heap.size < W.heap.size ∧ w4.heap.size ≤ W.heap.size) (((w4.alloc (.cells #[.string ⟨#[105, 110, 116]⟩, .string ⟨#[116, 101, 120, 116]⟩, .string ⟨#[98, 111, 111, 108]⟩] 9)).alloc (.cells #[.string nm, .string ⟨#[32]⟩, .string ⟨#[116, 101, 120, 116]⟩] 9)).drew) := ⟨hS3.1, hS3.2.1, hS3.2.2, Hz3.out⟩
     clear hlK hl3 hSK hS3 hwtK hwt3 hblk
     go_upto_region 7 with (fail)
     refine wp_region_noPanic ?_
     refine wp_region_held (S := (fun W => W.cell? ⟨wr.heap.size, 0, none⟩ = some (.string nm) ∧ W.cell? ⟨wr.heap.size, 1, none⟩ = some (.int .i64 2) ∧ wr.heap.size < W.heap.size ∧ w4.heap.size ≤ W.heap.size)) (by kernel_rfl) ?_
     change wpAnyH _ _ _ _ _ _ _ _ (World.drew _)
     refine tk 0 (.pointer (some ⟨g, 0, none⟩)) rfl HSS ?_
     go_simp
     refine tk 1 (.pointer (some ⟨wr.heap.size, 0, none⟩)) rfl HSS ?_
     go_simp
     refine tk 2 (.string nm) rfl HSS ?_
     go_simp
     refine tk 4 (.pointer (some ⟨wr.heap.size, 1, none⟩)) rfl HSS ?_
     go_simp
     refine tk 5 (.int .i64 2) rfl HSS ?_
     go_simp
     refine tk 6 (.int .i64 1) rfl HSS ?_
     go_simp
     refine wpAnyH_ready (rs := [3]) (by kernel_rfl) (by simp) ?_
     refine AllReadyH.cons rfl (fun K hK => ?_) AllReadyH.nil
     go_simp
     refine hK.out _ _ HSS2 (fun _ => ?_); clear hK K
     refine tk 7 (.pointer (some ⟨w4.heap.size, 1, none⟩)) rfl HSS2 ?_
     go_simp
     refine wpAnyH_ready (rs := [8]) (by kernel_rfl) (by simp) ?_
     refine AllReadyH.cons rfl (fun K hK => ?_) AllReadyH.nil
     go_simp
     refine hK.out _ _ HSS2 (fun _ => ?_); clear hK K
     refine wpAnyH_ready (rs := [9]) (by kernel_rfl) (by simp) ?_
     refine AllReadyH.cons rfl (fun K hK => ?_) AllReadyH.nil
     go_simp
     refine hK.out _ _ HSS3 (fun _ => ?_); clear hK K
     refine wpAnyH_ready (rs := [10]) (by kernel_rfl) (by simp) ?_
     refine AllReadyH.cons rfl (fun K hK => ?_) AllReadyH.nil
     go_simp
     with_reducible refine HP.out.mono ?_
     rintro e' w7 ⟨rfl, hwt7, hr7⟩
     have H7 := Lhd (And.intro hwt7 (HR3.out.trans hr7))
     have hS7 := Hc.out _ H7.out.2
     have Hz7 := Lhd hr7.1.size
     clear hwt7 hr7
     go_simp
     refine hK.out _ _ ⟨hS7.1, hS7.2.1, hS7.2.2, Nat.le_trans Hz3.out Hz7.out⟩ (fun _ => ?_); clear hK K
     refine wpAnyH_done (by kernel_rfl) ?_ _
     refine NoPanic.normal ?_
     clear HSS HSS2 HSS3 hS7 y0 y1 yl
     go_wp2
     go_roundw
     case rel =>
      refine ⟨0 + 1, by omega, by go_num, Lhd ?_, Lhd (HR4.out.trans H7.out.2)⟩
      rw [Hjt.out]
      simpa [catL, kindT, joinT] using H7.out.1
     case measure => simp [intOf]; omega
    ·have i0 : IntKind.i64.wrap 2 = 2 := by decide
     have hlK := (Below.refl w4.heap.size w4).drew.alloc (Nat.le_refl _) (.cells #[.string ⟨#[105, 110, 116]⟩, .string ⟨#[116, 101, 120, 116]⟩, .string ⟨#[98, 111, 111, 108]⟩] 9)
     have hwtK := Hwt.out.below hlK
     have HRK := Lhd (HRc.out.trans (Wrote.of_below (Nat.le_of_lt Hwt.out.lt) hlK))
     have hSK := Hc.out _ HRK.out
     have hl3 := ((((Below.refl w4.heap.size w4).alloc (Nat.le_refl _) (.cells #[.string ⟨#[105, 110, 116]⟩, .string ⟨#[116, 101, 120, 116]⟩, .string ⟨#[98, 111, 111, 108]⟩] 9)).alloc (by simp) (.cells #[.string nm, .string ⟨#[32]⟩, .string ⟨#[98, 111, 111, 108]⟩] 9)).drew)
     have hwt3 := Hwt.out.below hl3
     have hblk : IsBlk (((w4.alloc (.cells #[.string ⟨#[105, 110, 116]⟩, .string ⟨#[116, 101, 120, 116]⟩, .string ⟨#[98, 111, 111, 108]⟩] 9)).alloc (.cells #[.string nm, .string ⟨#[32]⟩, .string ⟨#[98, 111, 111, 108]⟩] 9)).drew) (w4.heap.size + 1) 9 #[.string nm, .string ⟨#[32]⟩, .string ⟨#[98, 111, 111, 108]⟩] := by
      show IsBlk ((w4.alloc (.cells #[.string ⟨#[105, 110, 116]⟩, .string ⟨#[116, 101, 120, 116]⟩, .string ⟨#[98, 111, 111, 108]⟩] 9)).alloc (.cells #[.string nm, .string ⟨#[32]⟩, .string ⟨#[98, 111, 111, 108]⟩] 9)) (w4.heap.size + 1) 9 #[.string nm, .string ⟨#[32]⟩, .string ⟨#[98, 111, 111, 108]⟩]
      exact laid_at (by simp) _ _
     have HP := Lhd (put_any g (w4.heap.size + 1) 3 _ br [nm, ⟨#[32]⟩, ⟨#[98, 111, 111, 108]⟩] (((w4.alloc (.cells #[.string ⟨#[105, 110, 116]⟩, .string ⟨#[116, 101, 120, 116]⟩, .string ⟨#[98, 111, 111, 108]⟩] 9)).alloc (.cells #[.string nm, .string ⟨#[32]⟩, .string ⟨#[98, 111, 111, 108]⟩] 9)).drew) hwt3 hblk rfl (by decide) (by have h9 := Hl4.out; simp [catL, kindT] at h9 ⊢; omega))
     have HR3 := Lhd (HRc.out.trans (Wrote.of_below (Nat.le_of_lt Hwt.out.lt) hl3))
     have hS3 := Hc.out _ HR3.out
     have Hzk := Lhd hlK.size
     have Hz3 := Lhd hl3.size
     have HSS : (fun W => W.cell? ⟨wr.heap.size, 0, none⟩ = some (.string nm) ∧ W.cell? ⟨wr.heap.size, 1, none⟩ = some (.int .i64 3) ∧ wr.heap.size < W.heap.size ∧ w4.heap.size ≤ W.heap.size) w4.drew := ⟨y0, y1, yl, Nat.le_refl _⟩
     have HSS2 : (fun W => W.cell? ⟨wr.heap.size, 0, none⟩ = some (.string nm) ∧ W.cell? ⟨wr.heap.size, 1, none⟩ = some (.int .i64 3) ∧ wr.heap.size < W.heap.size ∧ w4.heap.size ≤ W.heap.size) (w4.drew.alloc (.cells #[.string ⟨#[105, 110, 116]⟩, .string ⟨#[116, 101, 120, 116]⟩, .string ⟨#[98, 111, 111, 108]⟩] 9)) := ⟨hSK.1, hSK.2.1, hSK.2.2, Hzk.out⟩
     have HSS3 : (fun W => W.cell? ⟨wr.heap.size, 0, none⟩ = some (.string nm) ∧ W.cell? ⟨wr.heap.size, 1, none⟩ = some (.int .i64 3) ∧ wr.heap.size < W.heap.size ∧ w4.heap.size ≤ W.heap.size) (((w4.alloc (.cells #[.string ⟨#[105, 110, 116]⟩, .string ⟨#[116, 101, 120, 116]⟩, .string ⟨#[98, 111, 111, 108]⟩] 9)).alloc (.cells #[.string nm, .string ⟨#[32]⟩, .string ⟨#[98, 111, 111, 108]⟩] 9)).drew) := ⟨hS3.1, hS3.2.1, hS3.2.2, Hz3.out⟩
     clear hlK hl3 hSK hS3 hwtK hwt3 hblk
     go_upto_region 7 with (fail)
     refine wp_region_noPanic ?_
     refine wp_region_held (S := (fun W => W.cell? ⟨wr.heap.size, 0, none⟩ = some (.string nm) ∧ W.cell? ⟨wr.heap.size, 1, none⟩ = some (.int .i64 3) ∧ wr.heap.size < W.heap.size ∧ w4.heap.size ≤ W.heap.size)) (by kernel_rfl) ?_
     change wpAnyH _ _ _ _ _ _ _ _ (World.drew _)
     refine tk 0 (.pointer (some ⟨g, 0, none⟩)) rfl HSS ?_
     go_simp
     refine tk 1 (.pointer (some ⟨wr.heap.size, 0, none⟩)) rfl HSS ?_
     go_simp
     refine tk 2 (.string nm) rfl HSS ?_
     go_simp
     refine tk 4 (.pointer (some ⟨wr.heap.size, 1, none⟩)) rfl HSS ?_
     go_simp
     refine tk 5 (.int .i64 3) rfl HSS ?_
     go_simp
     refine tk 6 (.int .i64 2) rfl HSS ?_
     go_simp
     refine wpAnyH_ready (rs := [3]) (by kernel_rfl) (by simp) ?_
     refine AllReadyH.cons rfl (fun K hK => ?_) AllReadyH.nil
     go_simp
     refine hK.out _ _ HSS2 (fun _ => ?_); clear hK K
     refine tk 7 (.pointer (some ⟨w4.heap.size, 2, none⟩)) rfl HSS2 ?_
     go_simp
     refine wpAnyH_ready (rs := [8]) (by kernel_rfl) (by simp) ?_
     refine AllReadyH.cons rfl (fun K hK => ?_) AllReadyH.nil
     go_simp
     refine hK.out _ _ HSS2 (fun _ => ?_); clear hK K
     refine wpAnyH_ready (rs := [9]) (by kernel_rfl) (by simp) ?_
     refine AllReadyH.cons rfl (fun K hK => ?_) AllReadyH.nil
     go_simp
     refine hK.out _ _ HSS3 (fun _ => ?_); clear hK K
     refine wpAnyH_ready (rs := [10]) (by kernel_rfl) (by simp) ?_
     refine AllReadyH.cons rfl (fun K hK => ?_) AllReadyH.nil
     go_simp
     with_reducible refine HP.out.mono ?_
     rintro e' w7 ⟨rfl, hwt7, hr7⟩
     have H7 := Lhd (And.intro hwt7 (HR3.out.trans hr7))
     have hS7 := Hc.out _ H7.out.2
     have Hz7 := Lhd hr7.1.size
     clear hwt7 hr7
     go_simp
     refine hK.out _ _ ⟨hS7.1, hS7.2.1, hS7.2.2, Nat.le_trans Hz3.out Hz7.out⟩ (fun _ => ?_); clear hK K
     refine wpAnyH_done (by kernel_rfl) ?_ _
     refine NoPanic.normal ?_
     clear HSS HSS2 HSS3 hS7 y0 y1 yl
     go_wp2
     go_roundw
     case rel =>
      refine ⟨0 + 1, by omega, by go_num, Lhd ?_, Lhd (HR4.out.trans H7.out.2)⟩
      rw [Hjt.out]
      simpa [catL, kindT, joinT] using H7.out.1
     case measure => simp [intOf]; omega
   ·rw [if_neg (by omega)] at Hl4 Hjt
    go_wp2_with (fail)
    refine (put_new g 1 _ _ [⟨#[44, 32]⟩] _ hwt4 rfl (by decide) (by have h9 := Hl4.out; have e2 : (catL [⟨#[44, 32]⟩]).length = 2 := rfl; omega)).mono ?_
    rintro e' w5 ⟨rfl, hwt5, hr5⟩
    obtain ⟨y0, y1, yl⟩ := Hc.out _ hr5
    have Hwt := Lhd hwt5
    have HRc := Lhd hr5
    clear hwt4 hwt5 hr5
    obtain rfl | rfl | rfl : kd = 1 ∨ kd = 2 ∨ kd = 3 := by omega
    ·have i0 : IntKind.i64.wrap 0 = 0 := by decide
     have hlK := (Below.refl w5.heap.size w5).drew.alloc (Nat.le_refl _) (.cells #[.string ⟨#[105, 110, 116]⟩, .string ⟨#[116, 101, 120, 116]⟩, .string ⟨#[98, 111, 111, 108]⟩] 9)
     have hwtK := Hwt.out.below hlK
     have HRK := Lhd (HRc.out.trans (Wrote.of_below (Nat.le_of_lt Hwt.out.lt) hlK))
     have hSK := Hc.out _ HRK.out
     have hl3 := ((((Below.refl w5.heap.size w5).alloc (Nat.le_refl _) (.cells #[.string ⟨#[105, 110, 116]⟩, .string ⟨#[116, 101, 120, 116]⟩, .string ⟨#[98, 111, 111, 108]⟩] 9)).alloc (by simp) (.cells #[.string nm, .string ⟨#[32]⟩, .string ⟨#[105, 110, 116]⟩] 9)).drew)
     have hwt3 := Hwt.out.below hl3
     have hblk : IsBlk (((w5.alloc (.cells #[.string ⟨#[105, 110, 116]⟩, .string ⟨#[116, 101, 120, 116]⟩, .string ⟨#[98, 111, 111, 108]⟩] 9)).alloc (.cells #[.string nm, .string ⟨#[32]⟩, .string ⟨#[105, 110, 116]⟩] 9)).drew) (w5.heap.size + 1) 9 #[.string nm, .string ⟨#[32]⟩, .string ⟨#[105, 110, 116]⟩] := by
      show IsBlk ((w5.alloc (.cells #[.string ⟨#[105, 110, 116]⟩, .string ⟨#[116, 101, 120, 116]⟩, .string ⟨#[98, 111, 111, 108]⟩] 9)).alloc (.cells #[.string nm, .string ⟨#[32]⟩, .string ⟨#[105, 110, 116]⟩] 9)) (w5.heap.size + 1) 9 #[.string nm, .string ⟨#[32]⟩, .string ⟨#[105, 110, 116]⟩]
      exact laid_at (by simp) _ _
     have HP := Lhd (put_any g (w5.heap.size + 1) 3 _ br [nm, ⟨#[32]⟩, ⟨#[105, 110, 116]⟩] (((w5.alloc (.cells #[.string ⟨#[105, 110, 116]⟩, .string ⟨#[116, 101, 120, 116]⟩, .string ⟨#[98, 111, 111, 108]⟩] 9)).alloc (.cells #[.string nm, .string ⟨#[32]⟩, .string ⟨#[105, 110, 116]⟩] 9)).drew) hwt3 hblk rfl (by decide) (by have h9 := Hl4.out; simp [catL, kindT] at h9 ⊢; omega))
     have HR3 := Lhd (HRc.out.trans (Wrote.of_below (Nat.le_of_lt Hwt.out.lt) hl3))
     have hS3 := Hc.out _ HR3.out
     have Hzk := Lhd hlK.size
     have Hz3 := Lhd hl3.size
     have HSS : (fun W => W.cell? ⟨wr.heap.size, 0, none⟩ = some (.string nm) ∧ W.cell? ⟨wr.heap.size, 1, none⟩ = some (.int .i64 1) ∧ wr.heap.size < W.heap.size ∧ w5.heap.size ≤ W.heap.size) w5.drew := ⟨y0, y1, yl, Nat.le_refl _⟩
     have HSS2 : (fun W => W.cell? ⟨wr.heap.size, 0, none⟩ = some (.string nm) ∧ W.cell? ⟨wr.heap.size, 1, none⟩ = some (.int .i64 1) ∧ wr.heap.size < W.heap.size ∧ w5.heap.size ≤ W.heap.size) (w5.drew.alloc (.cells #[.string ⟨#[105, 110, 116]⟩, .string ⟨#[116, 101, 120, 116]⟩, .string ⟨#[98, 111, 111, 108]⟩] 9)) := ⟨hSK.1, hSK.2.1, hSK.2.2, Hzk.out⟩
     have HSS3 : (fun W => W.cell? ⟨wr.heap.size, 0, none⟩ = some (.string nm) ∧ W.cell? ⟨wr.heap.size, 1, none⟩ = some (.int .i64 1) ∧ wr.heap.size < W.heap.size ∧ w5.heap.size ≤ W.heap.size) (((w5.alloc (.cells #[.string ⟨#[105, 110, 116]⟩, .string ⟨#[116, 101, 120, 116]⟩, .string ⟨#[98, 111, 111, 108]⟩] 9)).alloc (.cells #[.string nm, .string ⟨#[32]⟩, .string ⟨#[105, 110, 116]⟩] 9)).drew) := ⟨hS3.1, hS3.2.1, hS3.2.2, Hz3.out⟩
     clear hlK hl3 hSK hS3 hwtK hwt3 hblk
     go_upto_region 7 with (fail)
     refine wp_region_noPanic ?_
     refine wp_region_held (S := (fun W => W.cell? ⟨wr.heap.size, 0, none⟩ = some (.string nm) ∧ W.cell? ⟨wr.heap.size, 1, none⟩ = some (.int .i64 1) ∧ wr.heap.size < W.heap.size ∧ w5.heap.size ≤ W.heap.size)) (by kernel_rfl) ?_
     change wpAnyH _ _ _ _ _ _ _ _ (World.drew _)
     refine tk 0 (.pointer (some ⟨g, 0, none⟩)) rfl HSS ?_
     go_simp
     refine tk 1 (.pointer (some ⟨wr.heap.size, 0, none⟩)) rfl HSS ?_
     go_simp
     refine tk 2 (.string nm) rfl HSS ?_
     go_simp
     refine tk 4 (.pointer (some ⟨wr.heap.size, 1, none⟩)) rfl HSS ?_
     go_simp
     refine tk 5 (.int .i64 1) rfl HSS ?_
     go_simp
     refine tk 6 (.int .i64 0) rfl HSS ?_
     go_simp
     refine wpAnyH_ready (rs := [3]) (by kernel_rfl) (by simp) ?_
     refine AllReadyH.cons rfl (fun K hK => ?_) AllReadyH.nil
     go_simp
     refine hK.out _ _ HSS2 (fun _ => ?_); clear hK K
     refine tk 7 (.pointer (some ⟨w5.heap.size, 0, none⟩)) rfl HSS2 ?_
     go_simp
     refine wpAnyH_ready (rs := [8]) (by kernel_rfl) (by simp) ?_
     refine AllReadyH.cons rfl (fun K hK => ?_) AllReadyH.nil
     go_simp
     refine hK.out _ _ HSS2 (fun _ => ?_); clear hK K
     refine wpAnyH_ready (rs := [9]) (by kernel_rfl) (by simp) ?_
     refine AllReadyH.cons rfl (fun K hK => ?_) AllReadyH.nil
     go_simp
     refine hK.out _ _ HSS3 (fun _ => ?_); clear hK K
     refine wpAnyH_ready (rs := [10]) (by kernel_rfl) (by simp) ?_
     refine AllReadyH.cons rfl (fun K hK => ?_) AllReadyH.nil
     go_simp
     with_reducible refine HP.out.mono ?_
     rintro e' w7 ⟨rfl, hwt7, hr7⟩
     have H7 := Lhd (And.intro hwt7 (HR3.out.trans hr7))
     have hS7 := Hc.out _ H7.out.2
     have Hz7 := Lhd hr7.1.size
     clear hwt7 hr7
     go_simp
     refine hK.out _ _ ⟨hS7.1, hS7.2.1, hS7.2.2, Nat.le_trans Hz3.out Hz7.out⟩ (fun _ => ?_); clear hK K
     refine wpAnyH_done (by kernel_rfl) ?_ _
     refine NoPanic.normal ?_
     clear HSS HSS2 HSS3 hS7 y0 y1 yl
     go_wp2
     go_roundw
     case rel =>
      refine ⟨k + 1, by omega, by go_num, Lhd ?_, Lhd (HR4.out.trans H7.out.2)⟩
      rw [Hjt.out]
      simpa [catL, kindT] using H7.out.1
     case measure => simp [intOf]; omega
    ·have i0 : IntKind.i64.wrap 1 = 1 := by decide
     have hlK := (Below.refl w5.heap.size w5).drew.alloc (Nat.le_refl _) (.cells #[.string ⟨#[105, 110, 116]⟩, .string ⟨#[116, 101, 120, 116]⟩, .string ⟨#[98, 111, 111, 108]⟩] 9)
     have hwtK := Hwt.out.below hlK
     have HRK := Lhd (HRc.out.trans (Wrote.of_below (Nat.le_of_lt Hwt.out.lt) hlK))
     have hSK := Hc.out _ HRK.out
     have hl3 := ((((Below.refl w5.heap.size w5).alloc (Nat.le_refl _) (.cells #[.string ⟨#[105, 110, 116]⟩, .string ⟨#[116, 101, 120, 116]⟩, .string ⟨#[98, 111, 111, 108]⟩] 9)).alloc (by simp) (.cells #[.string nm, .string ⟨#[32]⟩, .string ⟨#[116, 101, 120, 116]⟩] 9)).drew)
     have hwt3 := Hwt.out.below hl3
     have hblk : IsBlk (((w5.alloc (.cells #[.string ⟨#[105, 110, 116]⟩, .string ⟨#[116, 101, 120, 116]⟩, .string ⟨#[98, 111, 111, 108]⟩] 9)).alloc (.cells #[.string nm, .string ⟨#[32]⟩, .string ⟨#[116, 101, 120, 116]⟩] 9)).drew) (w5.heap.size + 1) 9 #[.string nm, .string ⟨#[32]⟩, .string ⟨#[116, 101, 120, 116]⟩] := by
      show IsBlk ((w5.alloc (.cells #[.string ⟨#[105, 110, 116]⟩, .string ⟨#[116, 101, 120, 116]⟩, .string ⟨#[98, 111, 111, 108]⟩] 9)).alloc (.cells #[.string nm, .string ⟨#[32]⟩, .string ⟨#[116, 101, 120, 116]⟩] 9)) (w5.heap.size + 1) 9 #[.string nm, .string ⟨#[32]⟩, .string ⟨#[116, 101, 120, 116]⟩]
      exact laid_at (by simp) _ _
     have HP := Lhd (put_any g (w5.heap.size + 1) 3 _ br [nm, ⟨#[32]⟩, ⟨#[116, 101, 120, 116]⟩] (((w5.alloc (.cells #[.string ⟨#[105, 110, 116]⟩, .string ⟨#[116, 101, 120, 116]⟩, .string ⟨#[98, 111, 111, 108]⟩] 9)).alloc (.cells #[.string nm, .string ⟨#[32]⟩, .string ⟨#[116, 101, 120, 116]⟩] 9)).drew) hwt3 hblk rfl (by decide) (by have h9 := Hl4.out; simp [catL, kindT] at h9 ⊢; omega))
     have HR3 := Lhd (HRc.out.trans (Wrote.of_below (Nat.le_of_lt Hwt.out.lt) hl3))
     have hS3 := Hc.out _ HR3.out
     have Hzk := Lhd hlK.size
     have Hz3 := Lhd hl3.size
     have HSS : (fun W => W.cell? ⟨wr.heap.size, 0, none⟩ = some (.string nm) ∧ W.cell? ⟨wr.heap.size, 1, none⟩ = some (.int .i64 2) ∧ wr.heap.size < W.heap.size ∧ w5.heap.size ≤ W.heap.size) w5.drew := ⟨y0, y1, yl, Nat.le_refl _⟩
     have HSS2 : (fun W => W.cell? ⟨wr.heap.size, 0, none⟩ = some (.string nm) ∧ W.cell? ⟨wr.heap.size, 1, none⟩ = some (.int .i64 2) ∧ wr.heap.size < W.heap.size ∧ w5.heap.size ≤ W.heap.size) (w5.drew.alloc (.cells #[.string ⟨#[105, 110, 116]⟩, .string ⟨#[116, 101, 120, 116]⟩, .string ⟨#[98, 111, 111, 108]⟩] 9)) := ⟨hSK.1, hSK.2.1, hSK.2.2, Hzk.out⟩
     have HSS3 : (fun W => W.cell? ⟨wr.heap.size, 0, none⟩ = some (.string nm) ∧ W.cell? ⟨wr.heap.size, 1, none⟩ = some (.int .i64 2) ∧ wr.heap.size < W.heap.size ∧ w5.heap.size ≤ W.heap.size) (((w5.alloc (.cells #[.string ⟨#[105, 110, 116]⟩, .string ⟨#[116, 101, 120, 116]⟩, .string ⟨#[98, 111, 111, 108]⟩] 9)).alloc (.cells #[.string nm, .string ⟨#[32]⟩, .string ⟨#[116, 101, 120, 116]⟩] 9)).drew) := ⟨hS3.1, hS3.2.1, hS3.2.2, Hz3.out⟩
     clear hlK hl3 hSK hS3 hwtK hwt3 hblk
     go_upto_region 7 with (fail)
     refine wp_region_noPanic ?_
     refine wp_region_held (S := (fun W => W.cell? ⟨wr.heap.size, 0, none⟩ = some (.string nm) ∧ W.cell? ⟨wr.heap.size, 1, none⟩ = some (.int .i64 2) ∧ wr.heap.size < W.heap.size ∧ w5.heap.size ≤ W.heap.size)) (by kernel_rfl) ?_
     change wpAnyH _ _ _ _ _ _ _ _ (World.drew _)
     refine tk 0 (.pointer (some ⟨g, 0, none⟩)) rfl HSS ?_
     go_simp
     refine tk 1 (.pointer (some ⟨wr.heap.size, 0, none⟩)) rfl HSS ?_
     go_simp
     refine tk 2 (.string nm) rfl HSS ?_
     go_simp
     refine tk 4 (.pointer (some ⟨wr.heap.size, 1, none⟩)) rfl HSS ?_
     go_simp
     refine tk 5 (.int .i64 2) rfl HSS ?_
     go_simp
     refine tk 6 (.int .i64 1) rfl HSS ?_
     go_simp
     refine wpAnyH_ready (rs := [3]) (by kernel_rfl) (by simp) ?_
     refine AllReadyH.cons rfl (fun K hK => ?_) AllReadyH.nil
     go_simp
     refine hK.out _ _ HSS2 (fun _ => ?_); clear hK K
     refine tk 7 (.pointer (some ⟨w5.heap.size, 1, none⟩)) rfl HSS2 ?_
     go_simp
     refine wpAnyH_ready (rs := [8]) (by kernel_rfl) (by simp) ?_
     refine AllReadyH.cons rfl (fun K hK => ?_) AllReadyH.nil
     go_simp
     refine hK.out _ _ HSS2 (fun _ => ?_); clear hK K
     refine wpAnyH_ready (rs := [9]) (by kernel_rfl) (by simp) ?_
     refine AllReadyH.cons rfl (fun K hK => ?_) AllReadyH.nil
     go_simp
     refine hK.out _ _ HSS3 (fun _ => ?_); clear hK K
     refine wpAnyH_ready (rs := [10]) (by kernel_rfl) (by simp) ?_
     refine AllReadyH.cons rfl (fun K hK => ?_) AllReadyH.nil
     go_simp
     with_reducible refine HP.out.mono ?_
     rintro e' w7 ⟨rfl, hwt7, hr7⟩
     have H7 := Lhd (And.intro hwt7 (HR3.out.trans hr7))
     have hS7 := Hc.out _ H7.out.2
     have Hz7 := Lhd hr7.1.size
     clear hwt7 hr7
     go_simp
     refine hK.out _ _ ⟨hS7.1, hS7.2.1, hS7.2.2, Nat.le_trans Hz3.out Hz7.out⟩ (fun _ => ?_); clear hK K
     refine wpAnyH_done (by kernel_rfl) ?_ _
     refine NoPanic.normal ?_
     clear HSS HSS2 HSS3 hS7 y0 y1 yl
     go_wp2
     go_roundw
     case rel =>
      refine ⟨k + 1, by omega, by go_num, Lhd ?_, Lhd (HR4.out.trans H7.out.2)⟩
      rw [Hjt.out]
      simpa [catL, kindT] using H7.out.1
     case measure => simp [intOf]; omega
    ·have i0 : IntKind.i64.wrap 2 = 2 := by decide
     have hlK := (Below.refl w5.heap.size w5).drew.alloc (Nat.le_refl _) (.cells #[.string ⟨#[105, 110, 116]⟩, .string ⟨#[116, 101, 120, 116]⟩, .string ⟨#[98, 111, 111, 108]⟩] 9)
     have hwtK := Hwt.out.below hlK
     have HRK := Lhd (HRc.out.trans (Wrote.of_below (Nat.le_of_lt Hwt.out.lt) hlK))
     have hSK := Hc.out _ HRK.out
     have hl3 := ((((Below.refl w5.heap.size w5).alloc (Nat.le_refl _) (.cells #[.string ⟨#[105, 110, 116]⟩, .string ⟨#[116, 101, 120, 116]⟩, .string ⟨#[98, 111, 111, 108]⟩] 9)).alloc (by simp) (.cells #[.string nm, .string ⟨#[32]⟩, .string ⟨#[98, 111, 111, 108]⟩] 9)).drew)
     have hwt3 := Hwt.out.below hl3
     have hblk : IsBlk (((w5.alloc (.cells #[.string ⟨#[105, 110, 116]⟩, .string ⟨#[116, 101, 120, 116]⟩, .string ⟨#[98, 111, 111, 108]⟩] 9)).alloc (.cells #[.string nm, .string ⟨#[32]⟩, .string ⟨#[98, 111, 111, 108]⟩] 9)).drew) (w5.heap.size + 1) 9 #[.string nm, .string ⟨#[32]⟩, .string ⟨#[98, 111, 111, 108]⟩] := by
      show IsBlk ((w5.alloc (.cells #[.string ⟨#[105, 110, 116]⟩, .string ⟨#[116, 101, 120, 116]⟩, .string ⟨#[98, 111, 111, 108]⟩] 9)).alloc (.cells #[.string nm, .string ⟨#[32]⟩, .string ⟨#[98, 111, 111, 108]⟩] 9)) (w5.heap.size + 1) 9 #[.string nm, .string ⟨#[32]⟩, .string ⟨#[98, 111, 111, 108]⟩]
      exact laid_at (by simp) _ _
     have HP := Lhd (put_any g (w5.heap.size + 1) 3 _ br [nm, ⟨#[32]⟩, ⟨#[98, 111, 111, 108]⟩] (((w5.alloc (.cells #[.string ⟨#[105, 110, 116]⟩, .string ⟨#[116, 101, 120, 116]⟩, .string ⟨#[98, 111, 111, 108]⟩] 9)).alloc (.cells #[.string nm, .string ⟨#[32]⟩, .string ⟨#[98, 111, 111, 108]⟩] 9)).drew) hwt3 hblk rfl (by decide) (by have h9 := Hl4.out; simp [catL, kindT] at h9 ⊢; omega))
     have HR3 := Lhd (HRc.out.trans (Wrote.of_below (Nat.le_of_lt Hwt.out.lt) hl3))
     have hS3 := Hc.out _ HR3.out
     have Hzk := Lhd hlK.size
     have Hz3 := Lhd hl3.size
     have HSS : (fun W => W.cell? ⟨wr.heap.size, 0, none⟩ = some (.string nm) ∧ W.cell? ⟨wr.heap.size, 1, none⟩ = some (.int .i64 3) ∧ wr.heap.size < W.heap.size ∧ w5.heap.size ≤ W.heap.size) w5.drew := ⟨y0, y1, yl, Nat.le_refl _⟩
     have HSS2 : (fun W => W.cell? ⟨wr.heap.size, 0, none⟩ = some (.string nm) ∧ W.cell? ⟨wr.heap.size, 1, none⟩ = some (.int .i64 3) ∧ wr.heap.size < W.heap.size ∧ w5.heap.size ≤ W.heap.size) (w5.drew.alloc (.cells #[.string ⟨#[105, 110, 116]⟩, .string ⟨#[116, 101, 120, 116]⟩, .string ⟨#[98, 111, 111, 108]⟩] 9)) := ⟨hSK.1, hSK.2.1, hSK.2.2, Hzk.out⟩
     have HSS3 : (fun W => W.cell? ⟨wr.heap.size, 0, none⟩ = some (.string nm) ∧ W.cell? ⟨wr.heap.size, 1, none⟩ = some (.int .i64 3) ∧ wr.heap.size < W.heap.size ∧ w5.heap.size ≤ W.heap.size) (((w5.alloc (.cells #[.string ⟨#[105, 110, 116]⟩, .string ⟨#[116, 101, 120, 116]⟩, .string ⟨#[98, 111, 111, 108]⟩] 9)).alloc (.cells #[.string nm, .string ⟨#[32]⟩, .string ⟨#[98, 111, 111, 108]⟩] 9)).drew) := ⟨hS3.1, hS3.2.1, hS3.2.2, Hz3.out⟩
     clear hlK hl3 hSK hS3 hwtK hwt3 hblk
     go_upto_region 7 with (fail)
     refine wp_region_noPanic ?_
     refine wp_region_held (S := (fun W => W.cell? ⟨wr.heap.size, 0, none⟩ = some (.string nm) ∧ W.cell? ⟨wr.heap.size, 1, none⟩ = some (.int .i64 3) ∧ wr.heap.size < W.heap.size ∧ w5.heap.size ≤ W.heap.size)) (by kernel_rfl) ?_
     change wpAnyH _ _ _ _ _ _ _ _ (World.drew _)
     refine tk 0 (.pointer (some ⟨g, 0, none⟩)) rfl HSS ?_
     go_simp
     refine tk 1 (.pointer (some ⟨wr.heap.size, 0, none⟩)) rfl HSS ?_
     go_simp
     refine tk 2 (.string nm) rfl HSS ?_
     go_simp
     refine tk 4 (.pointer (some ⟨wr.heap.size, 1, none⟩)) rfl HSS ?_
     go_simp
     refine tk 5 (.int .i64 3) rfl HSS ?_
     go_simp
     refine tk 6 (.int .i64 2) rfl HSS ?_
     go_simp
     refine wpAnyH_ready (rs := [3]) (by kernel_rfl) (by simp) ?_
     refine AllReadyH.cons rfl (fun K hK => ?_) AllReadyH.nil
     go_simp
     refine hK.out _ _ HSS2 (fun _ => ?_); clear hK K
     refine tk 7 (.pointer (some ⟨w5.heap.size, 2, none⟩)) rfl HSS2 ?_
     go_simp
     refine wpAnyH_ready (rs := [8]) (by kernel_rfl) (by simp) ?_
     refine AllReadyH.cons rfl (fun K hK => ?_) AllReadyH.nil
     go_simp
     refine hK.out _ _ HSS2 (fun _ => ?_); clear hK K
     refine wpAnyH_ready (rs := [9]) (by kernel_rfl) (by simp) ?_
     refine AllReadyH.cons rfl (fun K hK => ?_) AllReadyH.nil
     go_simp
     refine hK.out _ _ HSS3 (fun _ => ?_); clear hK K
     refine wpAnyH_ready (rs := [10]) (by kernel_rfl) (by simp) ?_
     refine AllReadyH.cons rfl (fun K hK => ?_) AllReadyH.nil
     go_simp
     with_reducible refine HP.out.mono ?_
     rintro e' w7 ⟨rfl, hwt7, hr7⟩
     have H7 := Lhd (And.intro hwt7 (HR3.out.trans hr7))
     have hS7 := Hc.out _ H7.out.2
     have Hz7 := Lhd hr7.1.size
     clear hwt7 hr7
     go_simp
     refine hK.out _ _ ⟨hS7.1, hS7.2.1, hS7.2.2, Nat.le_trans Hz3.out Hz7.out⟩ (fun _ => ?_); clear hK K
     refine wpAnyH_done (by kernel_rfl) ?_ _
     refine NoPanic.normal ?_
     clear HSS HSS2 HSS3 hS7 y0 y1 yl
     go_wp2
     go_roundw
     case rel =>
      refine ⟨k + 1, by omega, by go_num, Lhd ?_, Lhd (HR4.out.trans H7.out.2)⟩
      rw [Hjt.out]
      simpa [catL, kindT] using H7.out.1
     case measure => simp [intOf]; omega
  ·obtain rfl : k = np := Nat.le_antisymm hk hge
   have e1 : (params.map paramT).take k = params.map paramT := List.take_of_length_le (by rw [List.length_map]; omega)
   rw [e1] at HW
   have Hl5 := Lhd (show (P ++ joinT (params.map paramT)).length + ([41] ++ (if noS part then [] else [32, 111, 110, 32] ++ part.data.toList) ++ (if noS src then [] else [32, 102, 114, 111, 109, 32] ++ src.data.toList) ++ (if fuel = 100 then [] else [32, 102, 117, 101, 108, 32] ++ decS fuel) ++ [32] ++ TB).length ≤ 1000000000 from by have := Hl.out; rw [List.length_append]; omega)
   generalize P ++ joinT (params.map paramT) = P5 at *
   have hwt1 := HW.out
   have HRz := Lhd (HR2.out.trans HR.out)
   have Hx3 := Lhd (fun W (hW : Wrote g wr W) => Hx2.out W (HR.out.trans hW))
   have Hr1 := Lhd (Wrote.refl g wr)
   clear x0 x1 x2 x3 x4 x5 xl
   obtain ⟨x0, x1, x2, x3, x4, x5, xl⟩ := Hx3.out _ (Wrote.refl _ _)
   cases c1 : noS part <;> cases c2 : noS src <;> by_cases c3 : fuel = 100
   ·have s1 := str_some c1
    have s2 := str_some c2
    have q3 : (fuel == 100) = true := by simp [c3]
    go_wp2_with (fail)
    refine (put_new g 1 _ _ [⟨#[41]⟩] _ hwt1 rfl (by decide) (by have h9 := Hl5.out; simp [catL, c1, c2, c3] at h9 ⊢; omega)).mono ?_
    rintro e' w2 ⟨rfl, hwt2, hr2⟩
    have Hr2 := Lhd (Hr1.out.trans hr2)
    clear x0 x1 x2 x3 x4 x5 xl hwt1 hr2
    obtain ⟨x0, x1, x2, x3, x4, x5, xl⟩ := Hx3.out _ Hr2.out
    go_wp2_with (fail)
    refine (put_new g 2 _ _ [⟨#[32, 111, 110, 32]⟩, part] _ hwt2 rfl (by decide) (by have h9 := Hl5.out; simp [catL, c1, c2, c3] at h9 ⊢; omega)).mono ?_
    rintro e' w3 ⟨rfl, hwt3, hr3⟩
    have Hr3 := Lhd (Hr2.out.trans hr3)
    clear x0 x1 x2 x3 x4 x5 xl hwt2 hr3
    obtain ⟨x0, x1, x2, x3, x4, x5, xl⟩ := Hx3.out _ Hr3.out
    go_wp2_with (fail)
    refine (put_new g 2 _ _ [⟨#[32, 102, 114, 111, 109, 32]⟩, src] _ hwt3 rfl (by decide) (by have h9 := Hl5.out; simp [catL, c1, c2, c3] at h9 ⊢; omega)).mono ?_
    rintro e' w4 ⟨rfl, hwt4, hr4⟩
    have Hr4 := Lhd (Hr3.out.trans hr4)
    clear x0 x1 x2 x3 x4 x5 xl hwt3 hr4
    obtain ⟨x0, x1, x2, x3, x4, x5, xl⟩ := Hx3.out _ Hr4.out
    go_wp2_with (fail)
    refine (put_new g 1 _ _ [⟨#[32]⟩] _ hwt4 rfl (by decide) (by have h9 := Hl5.out; simp [catL, c1, c2, c3] at h9 ⊢; omega)).mono ?_
    rintro e' w5 ⟨rfl, hwt5, hr5⟩
    have Hr5 := Lhd (Hr4.out.trans hr5)
    clear x0 x1 x2 x3 x4 x5 xl hwt4 hr5
    obtain ⟨x0, x1, x2, x3, x4, x5, xl⟩ := Hx3.out _ Hr5.out
    go_wp2_with (fail)
    refine (HB.out _ _ _ (Hr0.out.trans (HRz.out.trans Hr5.out)) hwt5 (by have h9 := Hl5.out; simp [catL, c1, c2, c3] at h9 ⊢; omega)).mono ?_
    rintro e' w6 ⟨rfl, hwt6, hr6⟩
    have Hr6 := Lhd (Hr5.out.trans hr6)
    clear x0 x1 x2 x3 x4 x5 xl hwt5 hr6
    obtain ⟨x0, x1, x2, x3, x4, x5, xl⟩ := Hx3.out _ Hr6.out
    have H := Lhd (And.intro hwt6 (Hr0.out.trans (HRz.out.trans Hr6.out)))
    clear hwt6 x0 x1 x2 x3 x4 x5 xl
    go_wp2
    go_end0
    have hf : WtAt g (t ++ ([112, 114, 111, 99, 32] ++ name.data.toList ++ [40] ++ joinT (params.map paramT) ++ [41] ++ (if noS part then [] else [32, 111, 110, 32] ++ part.data.toList) ++ (if noS src then [] else [32, 102, 114, 111, 109, 32] ++ src.data.toList) ++ (if fuel = 100 then [] else [32, 102, 117, 101, 108, 32] ++ decS fuel) ++ [32] ++ TB)) (br || BB) w6 := by rw [He1.out]; simpa [catL, c1, c2, c3] using H.out.1
    exact ⟨rfl, by rw [← HTX.out]; exact hf, H.out.2⟩
   ·have s1 := str_some c1
    have s2 := str_some c2
    have q3 : (fuel == 100) = false := by simp [c3]
    go_wp2_with (fail)
    refine (put_new g 1 _ _ [⟨#[41]⟩] _ hwt1 rfl (by decide) (by have h9 := Hl5.out; simp [catL, c1, c2, c3] at h9 ⊢; omega)).mono ?_
    rintro e' w2 ⟨rfl, hwt2, hr2⟩
    have Hr2 := Lhd (Hr1.out.trans hr2)
    clear x0 x1 x2 x3 x4 x5 xl hwt1 hr2
    obtain ⟨x0, x1, x2, x3, x4, x5, xl⟩ := Hx3.out _ Hr2.out
    go_wp2_with (fail)
    refine (put_new g 2 _ _ [⟨#[32, 111, 110, 32]⟩, part] _ hwt2 rfl (by decide) (by have h9 := Hl5.out; simp [catL, c1, c2, c3] at h9 ⊢; omega)).mono ?_
    rintro e' w3 ⟨rfl, hwt3, hr3⟩
    have Hr3 := Lhd (Hr2.out.trans hr3)
    clear x0 x1 x2 x3 x4 x5 xl hwt2 hr3
    obtain ⟨x0, x1, x2, x3, x4, x5, xl⟩ := Hx3.out _ Hr3.out
    go_wp2_with (fail)
    refine (put_new g 2 _ _ [⟨#[32, 102, 114, 111, 109, 32]⟩, src] _ hwt3 rfl (by decide) (by have h9 := Hl5.out; simp [catL, c1, c2, c3] at h9 ⊢; omega)).mono ?_
    rintro e' w4 ⟨rfl, hwt4, hr4⟩
    have Hr4 := Lhd (Hr3.out.trans hr4)
    clear x0 x1 x2 x3 x4 x5 xl hwt3 hr4
    obtain ⟨x0, x1, x2, x3, x4, x5, xl⟩ := Hx3.out _ Hr4.out
    go_wp2_with (go_at_call 48; refine (Hcp.out _).mono ?_)
    rintro x w5 ⟨rfl, hb5⟩
    have hr5 : Wrote g w4 w5 := Wrote.of_below (Nat.le_of_lt hwt4.lt) hb5
    have hwt5 := hwt4.below hb5
    clear hb5
    have Hr5 := Lhd (Hr4.out.trans hr5)
    clear x0 x1 x2 x3 x4 x5 xl hwt4 hr5
    obtain ⟨x0, x1, x2, x3, x4, x5, xl⟩ := Hx3.out _ Hr5.out
    go_wp2_with (fail)
    refine (put_new g 2 _ _ [⟨#[32, 102, 117, 101, 108, 32]⟩, ⟨(decS fuel).toArray⟩] _ hwt5 rfl (by decide) (by have h9 := Hl5.out; simp [catL, c1, c2, c3] at h9 ⊢; omega)).mono ?_
    rintro e' w6 ⟨rfl, hwt6, hr6⟩
    have Hr6 := Lhd (Hr5.out.trans hr6)
    clear x0 x1 x2 x3 x4 x5 xl hwt5 hr6
    obtain ⟨x0, x1, x2, x3, x4, x5, xl⟩ := Hx3.out _ Hr6.out
    go_wp2_with (fail)
    refine (put_new g 1 _ _ [⟨#[32]⟩] _ hwt6 rfl (by decide) (by have h9 := Hl5.out; simp [catL, c1, c2, c3] at h9 ⊢; omega)).mono ?_
    rintro e' w7 ⟨rfl, hwt7, hr7⟩
    have Hr7 := Lhd (Hr6.out.trans hr7)
    clear x0 x1 x2 x3 x4 x5 xl hwt6 hr7
    obtain ⟨x0, x1, x2, x3, x4, x5, xl⟩ := Hx3.out _ Hr7.out
    go_wp2_with (fail)
    refine (HB.out _ _ _ (Hr0.out.trans (HRz.out.trans Hr7.out)) hwt7 (by have h9 := Hl5.out; simp [catL, c1, c2, c3] at h9 ⊢; omega)).mono ?_
    rintro e' w8 ⟨rfl, hwt8, hr8⟩
    have Hr8 := Lhd (Hr7.out.trans hr8)
    clear x0 x1 x2 x3 x4 x5 xl hwt7 hr8
    obtain ⟨x0, x1, x2, x3, x4, x5, xl⟩ := Hx3.out _ Hr8.out
    have H := Lhd (And.intro hwt8 (Hr0.out.trans (HRz.out.trans Hr8.out)))
    clear hwt8 x0 x1 x2 x3 x4 x5 xl
    go_wp2
    go_end0
    have hf : WtAt g (t ++ ([112, 114, 111, 99, 32] ++ name.data.toList ++ [40] ++ joinT (params.map paramT) ++ [41] ++ (if noS part then [] else [32, 111, 110, 32] ++ part.data.toList) ++ (if noS src then [] else [32, 102, 114, 111, 109, 32] ++ src.data.toList) ++ (if fuel = 100 then [] else [32, 102, 117, 101, 108, 32] ++ decS fuel) ++ [32] ++ TB)) (br || BB) w8 := by rw [He1.out]; simpa [catL, c1, c2, c3] using H.out.1
    exact ⟨rfl, by rw [← HTX.out]; exact hf, H.out.2⟩
   ·have s1 := str_some c1
    have s2 := str_empty c2
    have q3 : (fuel == 100) = true := by simp [c3]
    go_wp2_with (fail)
    refine (put_new g 1 _ _ [⟨#[41]⟩] _ hwt1 rfl (by decide) (by have h9 := Hl5.out; simp [catL, c1, c2, c3] at h9 ⊢; omega)).mono ?_
    rintro e' w2 ⟨rfl, hwt2, hr2⟩
    have Hr2 := Lhd (Hr1.out.trans hr2)
    clear x0 x1 x2 x3 x4 x5 xl hwt1 hr2
    obtain ⟨x0, x1, x2, x3, x4, x5, xl⟩ := Hx3.out _ Hr2.out
    go_wp2_with (fail)
    refine (put_new g 2 _ _ [⟨#[32, 111, 110, 32]⟩, part] _ hwt2 rfl (by decide) (by have h9 := Hl5.out; simp [catL, c1, c2, c3] at h9 ⊢; omega)).mono ?_
    rintro e' w3 ⟨rfl, hwt3, hr3⟩
    have Hr3 := Lhd (Hr2.out.trans hr3)
    clear x0 x1 x2 x3 x4 x5 xl hwt2 hr3
    obtain ⟨x0, x1, x2, x3, x4, x5, xl⟩ := Hx3.out _ Hr3.out
    go_wp2_with (fail)
    refine (put_new g 1 _ _ [⟨#[32]⟩] _ hwt3 rfl (by decide) (by have h9 := Hl5.out; simp [catL, c1, c2, c3] at h9 ⊢; omega)).mono ?_
    rintro e' w4 ⟨rfl, hwt4, hr4⟩
    have Hr4 := Lhd (Hr3.out.trans hr4)
    clear x0 x1 x2 x3 x4 x5 xl hwt3 hr4
    obtain ⟨x0, x1, x2, x3, x4, x5, xl⟩ := Hx3.out _ Hr4.out
    go_wp2_with (fail)
    refine (HB.out _ _ _ (Hr0.out.trans (HRz.out.trans Hr4.out)) hwt4 (by have h9 := Hl5.out; simp [catL, c1, c2, c3] at h9 ⊢; omega)).mono ?_
    rintro e' w5 ⟨rfl, hwt5, hr5⟩
    have Hr5 := Lhd (Hr4.out.trans hr5)
    clear x0 x1 x2 x3 x4 x5 xl hwt4 hr5
    obtain ⟨x0, x1, x2, x3, x4, x5, xl⟩ := Hx3.out _ Hr5.out
    have H := Lhd (And.intro hwt5 (Hr0.out.trans (HRz.out.trans Hr5.out)))
    clear hwt5 x0 x1 x2 x3 x4 x5 xl
    go_wp2
    go_end0
    have hf : WtAt g (t ++ ([112, 114, 111, 99, 32] ++ name.data.toList ++ [40] ++ joinT (params.map paramT) ++ [41] ++ (if noS part then [] else [32, 111, 110, 32] ++ part.data.toList) ++ (if noS src then [] else [32, 102, 114, 111, 109, 32] ++ src.data.toList) ++ (if fuel = 100 then [] else [32, 102, 117, 101, 108, 32] ++ decS fuel) ++ [32] ++ TB)) (br || BB) w5 := by rw [He1.out]; simpa [catL, c1, c2, c3] using H.out.1
    exact ⟨rfl, by rw [← HTX.out]; exact hf, H.out.2⟩
   ·have s1 := str_some c1
    have s2 := str_empty c2
    have q3 : (fuel == 100) = false := by simp [c3]
    go_wp2_with (fail)
    refine (put_new g 1 _ _ [⟨#[41]⟩] _ hwt1 rfl (by decide) (by have h9 := Hl5.out; simp [catL, c1, c2, c3] at h9 ⊢; omega)).mono ?_
    rintro e' w2 ⟨rfl, hwt2, hr2⟩
    have Hr2 := Lhd (Hr1.out.trans hr2)
    clear x0 x1 x2 x3 x4 x5 xl hwt1 hr2
    obtain ⟨x0, x1, x2, x3, x4, x5, xl⟩ := Hx3.out _ Hr2.out
    go_wp2_with (fail)
    refine (put_new g 2 _ _ [⟨#[32, 111, 110, 32]⟩, part] _ hwt2 rfl (by decide) (by have h9 := Hl5.out; simp [catL, c1, c2, c3] at h9 ⊢; omega)).mono ?_
    rintro e' w3 ⟨rfl, hwt3, hr3⟩
    have Hr3 := Lhd (Hr2.out.trans hr3)
    clear x0 x1 x2 x3 x4 x5 xl hwt2 hr3
    obtain ⟨x0, x1, x2, x3, x4, x5, xl⟩ := Hx3.out _ Hr3.out
    go_wp2_with (go_at_call 48; refine (Hcp.out _).mono ?_)
    rintro x w4 ⟨rfl, hb4⟩
    have hr4 : Wrote g w3 w4 := Wrote.of_below (Nat.le_of_lt hwt3.lt) hb4
    have hwt4 := hwt3.below hb4
    clear hb4
    have Hr4 := Lhd (Hr3.out.trans hr4)
    clear x0 x1 x2 x3 x4 x5 xl hwt3 hr4
    obtain ⟨x0, x1, x2, x3, x4, x5, xl⟩ := Hx3.out _ Hr4.out
    go_wp2_with (fail)
    refine (put_new g 2 _ _ [⟨#[32, 102, 117, 101, 108, 32]⟩, ⟨(decS fuel).toArray⟩] _ hwt4 rfl (by decide) (by have h9 := Hl5.out; simp [catL, c1, c2, c3] at h9 ⊢; omega)).mono ?_
    rintro e' w5 ⟨rfl, hwt5, hr5⟩
    have Hr5 := Lhd (Hr4.out.trans hr5)
    clear x0 x1 x2 x3 x4 x5 xl hwt4 hr5
    obtain ⟨x0, x1, x2, x3, x4, x5, xl⟩ := Hx3.out _ Hr5.out
    go_wp2_with (fail)
    refine (put_new g 1 _ _ [⟨#[32]⟩] _ hwt5 rfl (by decide) (by have h9 := Hl5.out; simp [catL, c1, c2, c3] at h9 ⊢; omega)).mono ?_
    rintro e' w6 ⟨rfl, hwt6, hr6⟩
    have Hr6 := Lhd (Hr5.out.trans hr6)
    clear x0 x1 x2 x3 x4 x5 xl hwt5 hr6
    obtain ⟨x0, x1, x2, x3, x4, x5, xl⟩ := Hx3.out _ Hr6.out
    go_wp2_with (fail)
    refine (HB.out _ _ _ (Hr0.out.trans (HRz.out.trans Hr6.out)) hwt6 (by have h9 := Hl5.out; simp [catL, c1, c2, c3] at h9 ⊢; omega)).mono ?_
    rintro e' w7 ⟨rfl, hwt7, hr7⟩
    have Hr7 := Lhd (Hr6.out.trans hr7)
    clear x0 x1 x2 x3 x4 x5 xl hwt6 hr7
    obtain ⟨x0, x1, x2, x3, x4, x5, xl⟩ := Hx3.out _ Hr7.out
    have H := Lhd (And.intro hwt7 (Hr0.out.trans (HRz.out.trans Hr7.out)))
    clear hwt7 x0 x1 x2 x3 x4 x5 xl
    go_wp2
    go_end0
    have hf : WtAt g (t ++ ([112, 114, 111, 99, 32] ++ name.data.toList ++ [40] ++ joinT (params.map paramT) ++ [41] ++ (if noS part then [] else [32, 111, 110, 32] ++ part.data.toList) ++ (if noS src then [] else [32, 102, 114, 111, 109, 32] ++ src.data.toList) ++ (if fuel = 100 then [] else [32, 102, 117, 101, 108, 32] ++ decS fuel) ++ [32] ++ TB)) (br || BB) w7 := by rw [He1.out]; simpa [catL, c1, c2, c3] using H.out.1
    exact ⟨rfl, by rw [← HTX.out]; exact hf, H.out.2⟩
   ·have s1 := str_empty c1
    have s2 := str_some c2
    have q3 : (fuel == 100) = true := by simp [c3]
    go_wp2_with (fail)
    refine (put_new g 1 _ _ [⟨#[41]⟩] _ hwt1 rfl (by decide) (by have h9 := Hl5.out; simp [catL, c1, c2, c3] at h9 ⊢; omega)).mono ?_
    rintro e' w2 ⟨rfl, hwt2, hr2⟩
    have Hr2 := Lhd (Hr1.out.trans hr2)
    clear x0 x1 x2 x3 x4 x5 xl hwt1 hr2
    obtain ⟨x0, x1, x2, x3, x4, x5, xl⟩ := Hx3.out _ Hr2.out
    go_wp2_with (fail)
    refine (put_new g 2 _ _ [⟨#[32, 102, 114, 111, 109, 32]⟩, src] _ hwt2 rfl (by decide) (by have h9 := Hl5.out; simp [catL, c1, c2, c3] at h9 ⊢; omega)).mono ?_
    rintro e' w3 ⟨rfl, hwt3, hr3⟩
    have Hr3 := Lhd (Hr2.out.trans hr3)
    clear x0 x1 x2 x3 x4 x5 xl hwt2 hr3
    obtain ⟨x0, x1, x2, x3, x4, x5, xl⟩ := Hx3.out _ Hr3.out
    go_wp2_with (fail)
    refine (put_new g 1 _ _ [⟨#[32]⟩] _ hwt3 rfl (by decide) (by have h9 := Hl5.out; simp [catL, c1, c2, c3] at h9 ⊢; omega)).mono ?_
    rintro e' w4 ⟨rfl, hwt4, hr4⟩
    have Hr4 := Lhd (Hr3.out.trans hr4)
    clear x0 x1 x2 x3 x4 x5 xl hwt3 hr4
    obtain ⟨x0, x1, x2, x3, x4, x5, xl⟩ := Hx3.out _ Hr4.out
    go_wp2_with (fail)
    refine (HB.out _ _ _ (Hr0.out.trans (HRz.out.trans Hr4.out)) hwt4 (by have h9 := Hl5.out; simp [catL, c1, c2, c3] at h9 ⊢; omega)).mono ?_
    rintro e' w5 ⟨rfl, hwt5, hr5⟩
    have Hr5 := Lhd (Hr4.out.trans hr5)
    clear x0 x1 x2 x3 x4 x5 xl hwt4 hr5
    obtain ⟨x0, x1, x2, x3, x4, x5, xl⟩ := Hx3.out _ Hr5.out
    have H := Lhd (And.intro hwt5 (Hr0.out.trans (HRz.out.trans Hr5.out)))
    clear hwt5 x0 x1 x2 x3 x4 x5 xl
    go_wp2
    go_end0
    have hf : WtAt g (t ++ ([112, 114, 111, 99, 32] ++ name.data.toList ++ [40] ++ joinT (params.map paramT) ++ [41] ++ (if noS part then [] else [32, 111, 110, 32] ++ part.data.toList) ++ (if noS src then [] else [32, 102, 114, 111, 109, 32] ++ src.data.toList) ++ (if fuel = 100 then [] else [32, 102, 117, 101, 108, 32] ++ decS fuel) ++ [32] ++ TB)) (br || BB) w5 := by rw [He1.out]; simpa [catL, c1, c2, c3] using H.out.1
    exact ⟨rfl, by rw [← HTX.out]; exact hf, H.out.2⟩
   ·have s1 := str_empty c1
    have s2 := str_some c2
    have q3 : (fuel == 100) = false := by simp [c3]
    go_wp2_with (fail)
    refine (put_new g 1 _ _ [⟨#[41]⟩] _ hwt1 rfl (by decide) (by have h9 := Hl5.out; simp [catL, c1, c2, c3] at h9 ⊢; omega)).mono ?_
    rintro e' w2 ⟨rfl, hwt2, hr2⟩
    have Hr2 := Lhd (Hr1.out.trans hr2)
    clear x0 x1 x2 x3 x4 x5 xl hwt1 hr2
    obtain ⟨x0, x1, x2, x3, x4, x5, xl⟩ := Hx3.out _ Hr2.out
    go_wp2_with (fail)
    refine (put_new g 2 _ _ [⟨#[32, 102, 114, 111, 109, 32]⟩, src] _ hwt2 rfl (by decide) (by have h9 := Hl5.out; simp [catL, c1, c2, c3] at h9 ⊢; omega)).mono ?_
    rintro e' w3 ⟨rfl, hwt3, hr3⟩
    have Hr3 := Lhd (Hr2.out.trans hr3)
    clear x0 x1 x2 x3 x4 x5 xl hwt2 hr3
    obtain ⟨x0, x1, x2, x3, x4, x5, xl⟩ := Hx3.out _ Hr3.out
    go_wp2_with (go_at_call 48; refine (Hcp.out _).mono ?_)
    rintro x w4 ⟨rfl, hb4⟩
    have hr4 : Wrote g w3 w4 := Wrote.of_below (Nat.le_of_lt hwt3.lt) hb4
    have hwt4 := hwt3.below hb4
    clear hb4
    have Hr4 := Lhd (Hr3.out.trans hr4)
    clear x0 x1 x2 x3 x4 x5 xl hwt3 hr4
    obtain ⟨x0, x1, x2, x3, x4, x5, xl⟩ := Hx3.out _ Hr4.out
    go_wp2_with (fail)
    refine (put_new g 2 _ _ [⟨#[32, 102, 117, 101, 108, 32]⟩, ⟨(decS fuel).toArray⟩] _ hwt4 rfl (by decide) (by have h9 := Hl5.out; simp [catL, c1, c2, c3] at h9 ⊢; omega)).mono ?_
    rintro e' w5 ⟨rfl, hwt5, hr5⟩
    have Hr5 := Lhd (Hr4.out.trans hr5)
    clear x0 x1 x2 x3 x4 x5 xl hwt4 hr5
    obtain ⟨x0, x1, x2, x3, x4, x5, xl⟩ := Hx3.out _ Hr5.out
    go_wp2_with (fail)
    refine (put_new g 1 _ _ [⟨#[32]⟩] _ hwt5 rfl (by decide) (by have h9 := Hl5.out; simp [catL, c1, c2, c3] at h9 ⊢; omega)).mono ?_
    rintro e' w6 ⟨rfl, hwt6, hr6⟩
    have Hr6 := Lhd (Hr5.out.trans hr6)
    clear x0 x1 x2 x3 x4 x5 xl hwt5 hr6
    obtain ⟨x0, x1, x2, x3, x4, x5, xl⟩ := Hx3.out _ Hr6.out
    go_wp2_with (fail)
    refine (HB.out _ _ _ (Hr0.out.trans (HRz.out.trans Hr6.out)) hwt6 (by have h9 := Hl5.out; simp [catL, c1, c2, c3] at h9 ⊢; omega)).mono ?_
    rintro e' w7 ⟨rfl, hwt7, hr7⟩
    have Hr7 := Lhd (Hr6.out.trans hr7)
    clear x0 x1 x2 x3 x4 x5 xl hwt6 hr7
    obtain ⟨x0, x1, x2, x3, x4, x5, xl⟩ := Hx3.out _ Hr7.out
    have H := Lhd (And.intro hwt7 (Hr0.out.trans (HRz.out.trans Hr7.out)))
    clear hwt7 x0 x1 x2 x3 x4 x5 xl
    go_wp2
    go_end0
    have hf : WtAt g (t ++ ([112, 114, 111, 99, 32] ++ name.data.toList ++ [40] ++ joinT (params.map paramT) ++ [41] ++ (if noS part then [] else [32, 111, 110, 32] ++ part.data.toList) ++ (if noS src then [] else [32, 102, 114, 111, 109, 32] ++ src.data.toList) ++ (if fuel = 100 then [] else [32, 102, 117, 101, 108, 32] ++ decS fuel) ++ [32] ++ TB)) (br || BB) w7 := by rw [He1.out]; simpa [catL, c1, c2, c3] using H.out.1
    exact ⟨rfl, by rw [← HTX.out]; exact hf, H.out.2⟩
   ·have s1 := str_empty c1
    have s2 := str_empty c2
    have q3 : (fuel == 100) = true := by simp [c3]
    go_wp2_with (fail)
    refine (put_new g 1 _ _ [⟨#[41]⟩] _ hwt1 rfl (by decide) (by have h9 := Hl5.out; simp [catL, c1, c2, c3] at h9 ⊢; omega)).mono ?_
    rintro e' w2 ⟨rfl, hwt2, hr2⟩
    have Hr2 := Lhd (Hr1.out.trans hr2)
    clear x0 x1 x2 x3 x4 x5 xl hwt1 hr2
    obtain ⟨x0, x1, x2, x3, x4, x5, xl⟩ := Hx3.out _ Hr2.out
    go_wp2_with (fail)
    refine (put_new g 1 _ _ [⟨#[32]⟩] _ hwt2 rfl (by decide) (by have h9 := Hl5.out; simp [catL, c1, c2, c3] at h9 ⊢; omega)).mono ?_
    rintro e' w3 ⟨rfl, hwt3, hr3⟩
    have Hr3 := Lhd (Hr2.out.trans hr3)
    clear x0 x1 x2 x3 x4 x5 xl hwt2 hr3
    obtain ⟨x0, x1, x2, x3, x4, x5, xl⟩ := Hx3.out _ Hr3.out
    go_wp2_with (fail)
    refine (HB.out _ _ _ (Hr0.out.trans (HRz.out.trans Hr3.out)) hwt3 (by have h9 := Hl5.out; simp [catL, c1, c2, c3] at h9 ⊢; omega)).mono ?_
    rintro e' w4 ⟨rfl, hwt4, hr4⟩
    have Hr4 := Lhd (Hr3.out.trans hr4)
    clear x0 x1 x2 x3 x4 x5 xl hwt3 hr4
    obtain ⟨x0, x1, x2, x3, x4, x5, xl⟩ := Hx3.out _ Hr4.out
    have H := Lhd (And.intro hwt4 (Hr0.out.trans (HRz.out.trans Hr4.out)))
    clear hwt4 x0 x1 x2 x3 x4 x5 xl
    go_wp2
    go_end0
    have hf : WtAt g (t ++ ([112, 114, 111, 99, 32] ++ name.data.toList ++ [40] ++ joinT (params.map paramT) ++ [41] ++ (if noS part then [] else [32, 111, 110, 32] ++ part.data.toList) ++ (if noS src then [] else [32, 102, 114, 111, 109, 32] ++ src.data.toList) ++ (if fuel = 100 then [] else [32, 102, 117, 101, 108, 32] ++ decS fuel) ++ [32] ++ TB)) (br || BB) w4 := by rw [He1.out]; simpa [catL, c1, c2, c3] using H.out.1
    exact ⟨rfl, by rw [← HTX.out]; exact hf, H.out.2⟩
   ·have s1 := str_empty c1
    have s2 := str_empty c2
    have q3 : (fuel == 100) = false := by simp [c3]
    go_wp2_with (fail)
    refine (put_new g 1 _ _ [⟨#[41]⟩] _ hwt1 rfl (by decide) (by have h9 := Hl5.out; simp [catL, c1, c2, c3] at h9 ⊢; omega)).mono ?_
    rintro e' w2 ⟨rfl, hwt2, hr2⟩
    have Hr2 := Lhd (Hr1.out.trans hr2)
    clear x0 x1 x2 x3 x4 x5 xl hwt1 hr2
    obtain ⟨x0, x1, x2, x3, x4, x5, xl⟩ := Hx3.out _ Hr2.out
    go_wp2_with (go_at_call 48; refine (Hcp.out _).mono ?_)
    rintro x w3 ⟨rfl, hb3⟩
    have hr3 : Wrote g w2 w3 := Wrote.of_below (Nat.le_of_lt hwt2.lt) hb3
    have hwt3 := hwt2.below hb3
    clear hb3
    have Hr3 := Lhd (Hr2.out.trans hr3)
    clear x0 x1 x2 x3 x4 x5 xl hwt2 hr3
    obtain ⟨x0, x1, x2, x3, x4, x5, xl⟩ := Hx3.out _ Hr3.out
    go_wp2_with (fail)
    refine (put_new g 2 _ _ [⟨#[32, 102, 117, 101, 108, 32]⟩, ⟨(decS fuel).toArray⟩] _ hwt3 rfl (by decide) (by have h9 := Hl5.out; simp [catL, c1, c2, c3] at h9 ⊢; omega)).mono ?_
    rintro e' w4 ⟨rfl, hwt4, hr4⟩
    have Hr4 := Lhd (Hr3.out.trans hr4)
    clear x0 x1 x2 x3 x4 x5 xl hwt3 hr4
    obtain ⟨x0, x1, x2, x3, x4, x5, xl⟩ := Hx3.out _ Hr4.out
    go_wp2_with (fail)
    refine (put_new g 1 _ _ [⟨#[32]⟩] _ hwt4 rfl (by decide) (by have h9 := Hl5.out; simp [catL, c1, c2, c3] at h9 ⊢; omega)).mono ?_
    rintro e' w5 ⟨rfl, hwt5, hr5⟩
    have Hr5 := Lhd (Hr4.out.trans hr5)
    clear x0 x1 x2 x3 x4 x5 xl hwt4 hr5
    obtain ⟨x0, x1, x2, x3, x4, x5, xl⟩ := Hx3.out _ Hr5.out
    go_wp2_with (fail)
    refine (HB.out _ _ _ (Hr0.out.trans (HRz.out.trans Hr5.out)) hwt5 (by have h9 := Hl5.out; simp [catL, c1, c2, c3] at h9 ⊢; omega)).mono ?_
    rintro e' w6 ⟨rfl, hwt6, hr6⟩
    have Hr6 := Lhd (Hr5.out.trans hr6)
    clear x0 x1 x2 x3 x4 x5 xl hwt5 hr6
    obtain ⟨x0, x1, x2, x3, x4, x5, xl⟩ := Hx3.out _ Hr6.out
    have H := Lhd (And.intro hwt6 (Hr0.out.trans (HRz.out.trans Hr6.out)))
    clear hwt6 x0 x1 x2 x3 x4 x5 xl
    go_wp2
    go_end0
    have hf : WtAt g (t ++ ([112, 114, 111, 99, 32] ++ name.data.toList ++ [40] ++ joinT (params.map paramT) ++ [41] ++ (if noS part then [] else [32, 111, 110, 32] ++ part.data.toList) ++ (if noS src then [] else [32, 102, 114, 111, 109, 32] ++ src.data.toList) ++ (if fuel = 100 then [] else [32, 102, 117, 101, 108, 32] ++ decS fuel) ++ [32] ++ TB)) (br || BB) w6 := by rw [He1.out]; simpa [catL, c1, c2, c3] using H.out.1
    exact ⟨rfl, by rw [← HTX.out]; exact hf, H.out.2⟩
end Go.Proofs.YtjpiedpmnnepgaaGreatDoor
