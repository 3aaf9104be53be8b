/- Parts of this proof, one behind the other: SynM, SynN, RefN, PrtP. -/
import Derived.Test.YtjpiedpmnnepgaaGreatDoorPz6
import Derived.Test.YtjpiedpmnnepgaaGreatDoorPz1
import Derived.Deep.RegionHeld3
import Derived.Test.YtjpiedpmnnepgaaGreatDoorPz2
set_option maxRecDepth 1000000
set_option maxHeartbeats 40000000
namespace Go.Proofs.YtjpiedpmnnepgaaGreatDoor
open Go.RowKit Go.Afx
def CoRow (r : List Value) (c : Co) : Prop := r = [.string c.name, .int .i64 c.kind] ∧ okS c.name ∧ okI c.kind
def PrAt (F : Nat → Prop) (d : Nat) (w : World) (r : List Value) (p : Pr) : Prop := okS p.name ∧ okS p.src ∧ okS p.part ∧ okI p.fuel ∧
 ∃ Ap np cp Ab nb cb, r = [.string p.name, .string p.src, .string p.part, .int .i64 p.fuel, .slice Ap np cp, .slice Ab nb cb] ∧ LsAt F w 2 CoRow Ap np cp p.params ∧ StsAt F d w Ab nb cb p.body
theorem PrAt.conv {F F' : Nat → Prop} (hF : ∀ k, F k → F' k) {w w' : World} (hk : Kept F w w') {d d' : Nat} (hd : d ≤ d') {r : List Value} {p : Pr} (h : PrAt F d w r p) : PrAt F' d' w' r p := by
 obtain ⟨h1, h2, h3, h4, Ap, np, cp, Ab, nb, cb, hr, k1, k2⟩ := h
 exact ⟨h1, h2, h3, h4, Ap, np, cp, Ab, nb, cb, hr, k1.conv hk (fun _ _ _ h => hF _ h) (fun _ _ _ h => h), StsAt.conv hF hk hd k2⟩
theorem PrAt.below {F : Nat → Prop} {w w' : World} {d : Nat} {r : List Value} {p : Pr} (h : PrAt F d w r p) (hb : Below w.heap.size w w') : PrAt F d w' r p := PrAt.conv (fun _ h => h) (Kept.of_below hb) (Nat.le_refl _) h
theorem coAt {F : Nat → Prop} {w : World} {A : Option Addr} {n c : Nat} {xs : List Co} (h : LsAt F w 2 CoRow A n c xs) {k : Nat} (hk : k < n) :
  ∃ b o x, A = some ⟨b, o, none⟩ ∧ b < w.heap.size ∧ xs[k]? = some x ∧ okS x.name ∧ okI x.kind ∧ w.cell? ⟨b, o + k * 2, none⟩ = some (.string x.name) ∧ w.cell? ⟨b, o + k * 2 + 1, none⟩ = some (.int .i64 x.kind) := by
 obtain ⟨b, o, r, x, hA, hb, _, hx, hl, ⟨rfl, h1, h2⟩, hc⟩ := h.get hk
 exact ⟨b, o, x, hA, hb, hx, h1, h2, by simpa using hc 0 _ rfl, hc 1 _ rfl⟩
theorem prBox {w : World} {g : Nat} {T : TypeId} {fuel : Int} {name src part : ByteArray} {Ap Ab : Option Addr} {np cp nb cb : Nat} (h : IsBlk w g T #[.string name, .string src, .string part, .int .i64 fuel, .slice Ap np cp, .slice Ab nb cb]) :
  w.cell? ⟨g, 0, none⟩ = some (.string name) ∧ w.cell? ⟨g, 1, none⟩ = some (.string src) ∧ w.cell? ⟨g, 2, none⟩ = some (.string part) ∧ w.cell? ⟨g, 3, none⟩ = some (.int .i64 fuel) ∧ w.cell? ⟨g, 4, none⟩ = some (.slice Ap np cp) ∧ w.cell? ⟨g, 5, none⟩ = some (.slice Ab nb cb) ∧ g < w.heap.size := by
 have h0 := h.cell 0; have h1 := h.cell 1; have h2 := h.cell 2; have h3 := h.cell 3; have h4 := h.cell 4; have h5 := h.cell 5
 simp at h0 h1 h2 h3 h4 h5
 exact ⟨h0, h1, h2, h3, h4, h5, h.lt⟩
def srow (s : ByteArray) : List Value := [.string s]
theorem srow_len : ∀ {xs : List ByteArray} (r : List Value), r ∈ xs.map srow → r.length = 1 := by
 intro xs r hr; obtain ⟨p, _, rfl⟩ := List.mem_map.1 hr; rfl
theorem srow_one : ∀ {xs : List ByteArray} (r : List Value), r ∈ xs.map srow → ∀ u ∈ r, u.oneCell' = true := by
 intro xs r hr u hu
 obtain ⟨p, _, rfl⟩ := List.mem_map.1 hr
 simp only [srow, List.mem_singleton] at hu
 subst hu; rfl
theorem LsAt.of_own {w : World} {base : Nat} {T : TypeId} {A : Option Addr} {n c : Nat} {xs : List ByteArray} (h : w.ownsRow base T 1 (.slice A n c) n (xs.map srow).flatten) (hn : xs.length = n) (hok : ∀ x ∈ xs, okS x) : LsAt (fun _ => True) w 1 SRow A n c xs :=
 ⟨xs.map srow, RowsAt.of_own h srow_len (by simpa using hn), fun _ _ _ => trivial, by simp, fun k r x hr hx => by
  rw [List.getElem?_map, hx] at hr
  simp at hr
  subst hr
  exact ⟨rfl, rfl, hok x (List.mem_of_getElem? hx)⟩⟩
theorem heads_bad {name src part : ByteArray} {fuel : Int} {params : List Co} (h : ∃ c ∈ params, kindB c = false) : headsR name src part fuel params = false := by
 have : params.all kindB = false := by
  rw [List.all_eq_false]
  obtain ⟨c, hc, hk⟩ := h
  exact ⟨c, hc, by simp [hk]⟩
 simp [headsR, this]
theorem heads_any (F : Nat → Prop) (name src part : ByteArray) (fuel : Int) (Ap Ab : Option Addr) (np cp nb cb : Nat) (params : List Co) (w : World) (hp : LsAt F w 2 CoRow Ap np cp params) (okn : okS name) (oks : okS src) (hbig : np ≤ 1000000) :
  Calls Tryz.prog 74 #[.agg #[.string name, .string src, .string part, .int .i64 fuel, .slice Ap np cp, .slice Ab nb cb]] w fun x w' => x = .returned (.bool (headsR name src part fuel params)) ∧ Below w.heap.size w w' := by
 have hlen := hp.len
 obtain ⟨w1, Hw1⟩ : ∃ w1, Hid (w1 = w.alloc (.cells #[.string name, .string src, .string part, .int .i64 fuel, .slice Ap np cp, .slice Ab nb cb] 50)) := ⟨_, rfl⟩
 have hx1 : IsBlk w1 w.heap.size 50 #[.string name, .string src, .string part, .int .i64 fuel, .slice Ap np cp, .slice Ab nb cb] := by rw [Hw1.out]; exact IsBlk.laid _ _ _
 have hb1 : Below w.heap.size w w1 := by rw [Hw1.out]; exact (Below.refl _ _).alloc (Nat.le_refl _) _
 have hz1 : w1.heap.size = w.heap.size + 1 := by rw [Hw1.out]; simp
 have Hx1 := Lhd hx1
 have Hz1 := Lhd hz1
 have hx4 := hx1.cell 4
 simp at hx4
 have hxl := hx1.lt
 clear hz1 hx1
 go_enter Tryz.func74, Tryz.ntmps74
 go_upto_region 2 with (fail)
 rw [← Hw1.out]
 go_wp2_with (fail)
 have Hlen := Lhd hlen
 clear hlen
 go_loopw [3, 9] (fun v i wr => ∃ (k : Nat) (A2 : Option Addr) (c2 : Nat), k ≤ np ∧ i = .int .i64 k ∧ v = .slice A2 k c2 ∧ (∀ y ∈ params.take k, kindB y = true) ∧ wr.ownsRow w1.heap.size 9 1 (.slice A2 k c2) k (((params.take k).map Co.name).map srow).flatten ∧ Below w1.heap.size w1 wr) (fun _ i _ => np - (intOf i).toNat)
 case atStart => exact ⟨0, none, 0, Nat.zero_le _, rfl, rfl, by simp, World.ownsRow_nil _ _ _ _, Below.refl _ _⟩
 case round =>
  obtain ⟨k, A2, c2, hk, rfl, rfl, hall, hown, hb⟩ := hrel
  have Hall := Lhd hall; clear hall
  have hzw := hb.size
  have hb0 := hb1.trans (hb.mono hb1.size)
  by_cases hlt : k < np
  ·obtain ⟨b, o, x, rfl, hbl, hx, hxn, hxk, hc0, hc1⟩ := coAt (hp.below hb0) hlt
   have Hx := Lhd hx
   have hq := fun W => within_any x.kind 1 3 W
   obtain ⟨q, Hq⟩ : ∃ q, Hid (kindB x = q) := ⟨_, rfl⟩
   have hq2 : (decide (1 ≤ x.kind) && decide (x.kind ≤ 3)) = q := Hq.out
   rw [hq2] at hq
   have HQ := Lhd hq
   clear hq hq2 hx
   cases q
   ·go_wp2_with (go_at_call 119; refine (HQ.out _).mono ?_; rintro y w' ⟨rfl, rfl⟩)
    go_ret
    exact ⟨ret_bool (heads_bad ⟨x, List.mem_of_getElem? Hx.out, Hq.out⟩).symm, hb0.alloc hb0.size _⟩
   ·have Hnx := Lhd (mem_take_succ Hx.out Hall.out Hq.out)
    have hown2 : ((wr.alloc (.cells #[.string x.name, .int .i64 x.kind] 93)).alloc (.cells #[.string x.name] 9)).ownsRow w1.heap.size 9 1 (.slice A2 k c2) k (((params.take k).map Co.name).map srow).flatten := (hown.alloc _).alloc _
    have hnew : RowsAt ((wr.alloc (.cells #[.string x.name, .int .i64 x.kind] 93)).alloc (.cells #[.string x.name] 9)) 1 (some ⟨wr.heap.size + 1, 0, none⟩) 1 1 ([x.name].map srow) := RowsAt.lit' _ _ 1 (by simp) rfl srow_len rfl (by unfold maxLen; omega)
    have hb2 : Below wr.heap.size wr ((wr.alloc (.cells #[.string x.name, .int .i64 x.kind] 93)).alloc (.cells #[.string x.name] 9)) := ((Below.refl _ _).alloc (Nat.le_refl _) _).alloc (by simp) _
    go_wp2_with (first | (go_at_call 119; refine (HQ.out _).mono ?_; rintro y w' ⟨rfl, rfl⟩) | (at_builtin; refine wpList_app rfl rfl tyStr rfl hown2 rfl hnew srow_len srow_one ?_ ?_ ?_ ?_; (unfold maxLen; omega); omega; (simp; omega); intro A3 c3 w3 hown3 hbut3 hf3))
    go_roundw
    case rel =>
     rw [← List.map_append] at hown3
     refine ⟨k + 1, A3, c3, by omega, by go_num, rfl, Hnx.out, by rw [take_succ_of' Hx.out, List.map_append]; exact hown3, ?_⟩
     exact hb.trans ((hb2.mono hzw).trans (hbut3.below' (by simp; omega) (fun i hi => by
      cases A2 with
      | none => cases hi
      | some a2 => have h := hown2.lt a2.block rfl; simp at hi; omega)))
    case measure => simp [intOf]; omega
  ·obtain rfl : k = np := by omega
   have hpar : params.take k = params := List.take_of_length_le (by rw [Hlen.out]; omega)
   have hallp : params.all kindB = true := by rw [List.all_eq_true]; have h := Hall.out; rw [hpar] at h; exact h
   rw [hpar] at hown
   have hokn : ∀ y ∈ params.map Co.name, okS y := by
    intro y hy
    obtain ⟨c, hc, rfl⟩ := List.mem_map.1 hy
    obtain ⟨i, hi⟩ := List.mem_iff_getElem?.1 hc
    have hik : i < k := by have := (List.getElem?_eq_some_iff.1 hi).1; rw [Hlen.out] at this; exact this
    obtain ⟨b, o, x, _, _, hx, hxn, _⟩ := coAt (hp.below hb0) hik
    rw [hi] at hx
    cases hx
    exact hxn
   have hnl : (params.map Co.name).length = k := by rw [List.length_map, Hlen.out]
   have HN := Lhd (fun W (hW : Below wr.heap.size wr W) => LsAt.of_own (own_below hown hW) hnl hokn)
   have hfin : headsR name src part fuel params = (freeB name && decide (k ≤ 8) && freesB (params.map Co.name) && decide (params.map Co.name).Nodup && (decide (1 ≤ fuel) && decide (fuel ≤ 2000)) &&
     (if noS src then noS part || (params.map Co.name).any fun x => decide (x = part) else freeB src && decide (k = 0) && noS part)) := by
    rw [headsR, hallp, Hlen.out, Bool.true_and]
   have hcon : ((params.map Co.name).any fun y => part.toList == y.toList) = (params.map Co.name).any fun x => decide (x = part) := by
    congr 1; funext x; rw [bs_eq, decide_eq_decide]; exact eq_comm
   have HF1 := Lhd (fun (W : World) A m c (h : LsAt (fun _ => True) W 1 SRow A m c [name]) => free_any _ A m c _ W h)
   have HF2 := Lhd (fun (W : World) (hW : Below wr.heap.size wr W) => free_any _ _ _ _ _ W (HN.out W hW))
   have HF3 := Lhd (fun (W : World) (hW : Below wr.heap.size wr W) => unlike_any _ _ _ _ _ W (HN.out W hW) hbig)
   have HF4 := Lhd (fun (W : World) A m c (h : LsAt (fun _ => True) W 1 SRow A m c [src]) => free_any _ A m c _ W h)
   have HF5 := Lhd (fun (W : World) (hW : Below wr.heap.size wr W) => containsS_any _ _ _ _ _ part W (HN.out W hW))
   have HW := Lhd (fun W => within_any fuel 1 2000 W)
   rw [freesB_one] at HF1 HF4
   rw [hcon] at HF5
   obtain ⟨q1, Hq1⟩ : ∃ q, Hid (freeB name = q) := ⟨_, rfl⟩
   obtain ⟨q2, Hq2⟩ : ∃ q, Hid (freesB (params.map Co.name) = q) := ⟨_, rfl⟩
   obtain ⟨q3, Hq3⟩ : ∃ q, Hid (decide (params.map Co.name).Nodup = q) := ⟨_, rfl⟩
   obtain ⟨q4, Hq4⟩ : ∃ q, Hid (freeB src = q) := ⟨_, rfl⟩
   obtain ⟨q5, Hq5⟩ : ∃ q, Hid (((params.map Co.name).any fun x => decide (x = part)) = q) := ⟨_, rfl⟩
   obtain ⟨q6, Hq6⟩ : ∃ q, Hid ((decide (1 ≤ fuel) && decide (fuel ≤ 2000)) = q) := ⟨_, rfl⟩
   rw [Hq1.out] at HF1 hfin
   rw [Hq2.out] at HF2 hfin
   rw [Hq3.out] at HF3 hfin
   rw [Hq4.out] at HF4 hfin
   rw [Hq5.out] at HF5 hfin
   rw [Hq6.out] at HW hfin
   have Hfin := Lhd hfin
   have Hp := Lhd (fun W (hW : Below wr.heap.size wr W) => prBox (Hx1.out.as_was ((hb.trans (hW.mono hzw)).block _ hxl)))
   have HB := Lhd (fun W (hW : Below wr.heap.size wr W) => hb0.trans (hW.mono hb0.size))
   have hR : Below wr.heap.size wr wr := Below.refl _ _
   have hnk : k ≤ 9223372036854775807 := by omega
   obtain ⟨x0, x1, x2, x3, x4, x5, xl⟩ := Hp.out _ hR
   clear hfin hcon hnl hokn hallp hpar hp hown Hlen
   cases q1
   ·go_wp2_with (first | (go_at_call 120; with_reducible refine (HF1.out _ _ _ _ (strs_one 9 name rfl okn)).mono ?_; rintro x w2 ⟨rfl, hb2⟩; replace hR := (hR.alloc hR.size _).trans (hb2.mono (by first | (simp; done) | (have := hR.size; simp; omega))); obtain ⟨x0, x1, x2, x3, x4, x5, xl⟩ := Hp.out _ hR) | (go_at_call 120; with_reducible refine (HF4.out _ _ _ _ (strs_one 9 src rfl oks)).mono ?_; rintro x w3 ⟨rfl, hb3⟩; replace hR := (hR.alloc hR.size _).trans (hb3.mono (by first | (simp; done) | (have := hR.size; simp; omega))); obtain ⟨x0, x1, x2, x3, x4, x5, xl⟩ := Hp.out _ hR) | (go_at_call 120; with_reducible refine (HF2.out _ hR).mono ?_; rintro x w4 ⟨rfl, hb4⟩; replace hR := hR.trans (hb4.mono hR.size); obtain ⟨x0, x1, x2, x3, x4, x5, xl⟩ := Hp.out _ hR) | (go_at_call 121; with_reducible refine (HF3.out _ hR).mono ?_; rintro x w5 ⟨rfl, hb5⟩; replace hR := hR.trans (hb5.mono hR.size); obtain ⟨x0, x1, x2, x3, x4, x5, xl⟩ := Hp.out _ hR) | (go_at_call 119; with_reducible refine (HW.out _).mono ?_; rintro x w' ⟨rfl, rfl⟩) | (go_at_call 122; with_reducible refine (HF5.out _ hR).mono ?_; rintro x w' ⟨rfl, rfl⟩))
    go_ret
    exact ⟨ret_bool (by rw [Hfin.out]; simp), HB.out _ hR⟩
   by_cases h8 : k ≤ 8
   rotate_left
   ·have h8' : (8 : Int) < (k : Int) := by omega
    go_wp2_with (first | (go_at_call 120; with_reducible refine (HF1.out _ _ _ _ (strs_one 9 name rfl okn)).mono ?_; rintro x w2 ⟨rfl, hb2⟩; replace hR := (hR.alloc hR.size _).trans (hb2.mono (by first | (simp; done) | (have := hR.size; simp; omega))); obtain ⟨x0, x1, x2, x3, x4, x5, xl⟩ := Hp.out _ hR) | (go_at_call 120; with_reducible refine (HF4.out _ _ _ _ (strs_one 9 src rfl oks)).mono ?_; rintro x w3 ⟨rfl, hb3⟩; replace hR := (hR.alloc hR.size _).trans (hb3.mono (by first | (simp; done) | (have := hR.size; simp; omega))); obtain ⟨x0, x1, x2, x3, x4, x5, xl⟩ := Hp.out _ hR) | (go_at_call 120; with_reducible refine (HF2.out _ hR).mono ?_; rintro x w4 ⟨rfl, hb4⟩; replace hR := hR.trans (hb4.mono hR.size); obtain ⟨x0, x1, x2, x3, x4, x5, xl⟩ := Hp.out _ hR) | (go_at_call 121; with_reducible refine (HF3.out _ hR).mono ?_; rintro x w5 ⟨rfl, hb5⟩; replace hR := hR.trans (hb5.mono hR.size); obtain ⟨x0, x1, x2, x3, x4, x5, xl⟩ := Hp.out _ hR) | (go_at_call 119; with_reducible refine (HW.out _).mono ?_; rintro x w' ⟨rfl, rfl⟩) | (go_at_call 122; with_reducible refine (HF5.out _ hR).mono ?_; rintro x w' ⟨rfl, rfl⟩))
    go_ret
    exact ⟨ret_bool (by rw [Hfin.out]; simp [h8]), HB.out _ hR⟩
   have h8' : (k : Int) ≤ 8 := by omega
   cases q2
   ·go_wp2_with (first | (go_at_call 120; with_reducible refine (HF1.out _ _ _ _ (strs_one 9 name rfl okn)).mono ?_; rintro x w2 ⟨rfl, hb2⟩; replace hR := (hR.alloc hR.size _).trans (hb2.mono (by first | (simp; done) | (have := hR.size; simp; omega))); obtain ⟨x0, x1, x2, x3, x4, x5, xl⟩ := Hp.out _ hR) | (go_at_call 120; with_reducible refine (HF4.out _ _ _ _ (strs_one 9 src rfl oks)).mono ?_; rintro x w3 ⟨rfl, hb3⟩; replace hR := (hR.alloc hR.size _).trans (hb3.mono (by first | (simp; done) | (have := hR.size; simp; omega))); obtain ⟨x0, x1, x2, x3, x4, x5, xl⟩ := Hp.out _ hR) | (go_at_call 120; with_reducible refine (HF2.out _ hR).mono ?_; rintro x w4 ⟨rfl, hb4⟩; replace hR := hR.trans (hb4.mono hR.size); obtain ⟨x0, x1, x2, x3, x4, x5, xl⟩ := Hp.out _ hR) | (go_at_call 121; with_reducible refine (HF3.out _ hR).mono ?_; rintro x w5 ⟨rfl, hb5⟩; replace hR := hR.trans (hb5.mono hR.size); obtain ⟨x0, x1, x2, x3, x4, x5, xl⟩ := Hp.out _ hR) | (go_at_call 119; with_reducible refine (HW.out _).mono ?_; rintro x w' ⟨rfl, rfl⟩) | (go_at_call 122; with_reducible refine (HF5.out _ hR).mono ?_; rintro x w' ⟨rfl, rfl⟩))
    go_ret
    exact ⟨ret_bool (by rw [Hfin.out]; simp), HB.out _ hR⟩
   cases q3
   ·go_wp2_with (first | (go_at_call 120; with_reducible refine (HF1.out _ _ _ _ (strs_one 9 name rfl okn)).mono ?_; rintro x w2 ⟨rfl, hb2⟩; replace hR := (hR.alloc hR.size _).trans (hb2.mono (by first | (simp; done) | (have := hR.size; simp; omega))); obtain ⟨x0, x1, x2, x3, x4, x5, xl⟩ := Hp.out _ hR) | (go_at_call 120; with_reducible refine (HF4.out _ _ _ _ (strs_one 9 src rfl oks)).mono ?_; rintro x w3 ⟨rfl, hb3⟩; replace hR := (hR.alloc hR.size _).trans (hb3.mono (by first | (simp; done) | (have := hR.size; simp; omega))); obtain ⟨x0, x1, x2, x3, x4, x5, xl⟩ := Hp.out _ hR) | (go_at_call 120; with_reducible refine (HF2.out _ hR).mono ?_; rintro x w4 ⟨rfl, hb4⟩; replace hR := hR.trans (hb4.mono hR.size); obtain ⟨x0, x1, x2, x3, x4, x5, xl⟩ := Hp.out _ hR) | (go_at_call 121; with_reducible refine (HF3.out _ hR).mono ?_; rintro x w5 ⟨rfl, hb5⟩; replace hR := hR.trans (hb5.mono hR.size); obtain ⟨x0, x1, x2, x3, x4, x5, xl⟩ := Hp.out _ hR) | (go_at_call 119; with_reducible refine (HW.out _).mono ?_; rintro x w' ⟨rfl, rfl⟩) | (go_at_call 122; with_reducible refine (HF5.out _ hR).mono ?_; rintro x w' ⟨rfl, rfl⟩))
    go_ret
    exact ⟨ret_bool (by rw [Hfin.out]; simp), HB.out _ hR⟩
   cases q6
   ·go_wp2_with (first | (go_at_call 120; with_reducible refine (HF1.out _ _ _ _ (strs_one 9 name rfl okn)).mono ?_; rintro x w2 ⟨rfl, hb2⟩; replace hR := (hR.alloc hR.size _).trans (hb2.mono (by first | (simp; done) | (have := hR.size; simp; omega))); obtain ⟨x0, x1, x2, x3, x4, x5, xl⟩ := Hp.out _ hR) | (go_at_call 120; with_reducible refine (HF4.out _ _ _ _ (strs_one 9 src rfl oks)).mono ?_; rintro x w3 ⟨rfl, hb3⟩; replace hR := (hR.alloc hR.size _).trans (hb3.mono (by first | (simp; done) | (have := hR.size; simp; omega))); obtain ⟨x0, x1, x2, x3, x4, x5, xl⟩ := Hp.out _ hR) | (go_at_call 120; with_reducible refine (HF2.out _ hR).mono ?_; rintro x w4 ⟨rfl, hb4⟩; replace hR := hR.trans (hb4.mono hR.size); obtain ⟨x0, x1, x2, x3, x4, x5, xl⟩ := Hp.out _ hR) | (go_at_call 121; with_reducible refine (HF3.out _ hR).mono ?_; rintro x w5 ⟨rfl, hb5⟩; replace hR := hR.trans (hb5.mono hR.size); obtain ⟨x0, x1, x2, x3, x4, x5, xl⟩ := Hp.out _ hR) | (go_at_call 119; with_reducible refine (HW.out _).mono ?_; rintro x w' ⟨rfl, rfl⟩) | (go_at_call 122; with_reducible refine (HF5.out _ hR).mono ?_; rintro x w' ⟨rfl, rfl⟩))
    go_ret
    exact ⟨ret_bool (by rw [Hfin.out]; simp), HB.out _ hR⟩
   cases hsrc : noS src
   ·have hsrc' := str_some hsrc
    have Hsrc := Lhd hsrc
    clear hsrc
    cases q4
    ·go_wp2_with (first | (go_at_call 120; with_reducible refine (HF1.out _ _ _ _ (strs_one 9 name rfl okn)).mono ?_; rintro x w2 ⟨rfl, hb2⟩; replace hR := (hR.alloc hR.size _).trans (hb2.mono (by first | (simp; done) | (have := hR.size; simp; omega))); obtain ⟨x0, x1, x2, x3, x4, x5, xl⟩ := Hp.out _ hR) | (go_at_call 120; with_reducible refine (HF4.out _ _ _ _ (strs_one 9 src rfl oks)).mono ?_; rintro x w3 ⟨rfl, hb3⟩; replace hR := (hR.alloc hR.size _).trans (hb3.mono (by first | (simp; done) | (have := hR.size; simp; omega))); obtain ⟨x0, x1, x2, x3, x4, x5, xl⟩ := Hp.out _ hR) | (go_at_call 120; with_reducible refine (HF2.out _ hR).mono ?_; rintro x w4 ⟨rfl, hb4⟩; replace hR := hR.trans (hb4.mono hR.size); obtain ⟨x0, x1, x2, x3, x4, x5, xl⟩ := Hp.out _ hR) | (go_at_call 121; with_reducible refine (HF3.out _ hR).mono ?_; rintro x w5 ⟨rfl, hb5⟩; replace hR := hR.trans (hb5.mono hR.size); obtain ⟨x0, x1, x2, x3, x4, x5, xl⟩ := Hp.out _ hR) | (go_at_call 119; with_reducible refine (HW.out _).mono ?_; rintro x w' ⟨rfl, rfl⟩) | (go_at_call 122; with_reducible refine (HF5.out _ hR).mono ?_; rintro x w' ⟨rfl, rfl⟩))
     go_ret
     exact ⟨ret_bool (by rw [Hfin.out]; simp [Hsrc.out]), HB.out _ hR⟩
    by_cases hk0 : k = 0
    ·have hk0' : ((k : Int) == 0) = true := by simp; omega
     have Hk0 := Lhd hk0
     clear hk0
     cases hpt : noS part
     ·have hpt' := str_some hpt
      have Hpt := Lhd hpt
      clear hpt
      go_wp2_with (first | (go_at_call 120; with_reducible refine (HF1.out _ _ _ _ (strs_one 9 name rfl okn)).mono ?_; rintro x w2 ⟨rfl, hb2⟩; replace hR := (hR.alloc hR.size _).trans (hb2.mono (by first | (simp; done) | (have := hR.size; simp; omega))); obtain ⟨x0, x1, x2, x3, x4, x5, xl⟩ := Hp.out _ hR) | (go_at_call 120; with_reducible refine (HF4.out _ _ _ _ (strs_one 9 src rfl oks)).mono ?_; rintro x w3 ⟨rfl, hb3⟩; replace hR := (hR.alloc hR.size _).trans (hb3.mono (by first | (simp; done) | (have := hR.size; simp; omega))); obtain ⟨x0, x1, x2, x3, x4, x5, xl⟩ := Hp.out _ hR) | (go_at_call 120; with_reducible refine (HF2.out _ hR).mono ?_; rintro x w4 ⟨rfl, hb4⟩; replace hR := hR.trans (hb4.mono hR.size); obtain ⟨x0, x1, x2, x3, x4, x5, xl⟩ := Hp.out _ hR) | (go_at_call 121; with_reducible refine (HF3.out _ hR).mono ?_; rintro x w5 ⟨rfl, hb5⟩; replace hR := hR.trans (hb5.mono hR.size); obtain ⟨x0, x1, x2, x3, x4, x5, xl⟩ := Hp.out _ hR) | (go_at_call 119; with_reducible refine (HW.out _).mono ?_; rintro x w' ⟨rfl, rfl⟩) | (go_at_call 122; with_reducible refine (HF5.out _ hR).mono ?_; rintro x w' ⟨rfl, rfl⟩))
      go_ret
      exact ⟨ret_bool (by rw [Hfin.out]; simp [Hk0.out, Hpt.out, Hsrc.out]), HB.out _ hR⟩
     ·have hpt' := str_empty hpt
      have Hpt := Lhd hpt
      clear hpt
      go_wp2_with (first | (go_at_call 120; with_reducible refine (HF1.out _ _ _ _ (strs_one 9 name rfl okn)).mono ?_; rintro x w2 ⟨rfl, hb2⟩; replace hR := (hR.alloc hR.size _).trans (hb2.mono (by first | (simp; done) | (have := hR.size; simp; omega))); obtain ⟨x0, x1, x2, x3, x4, x5, xl⟩ := Hp.out _ hR) | (go_at_call 120; with_reducible refine (HF4.out _ _ _ _ (strs_one 9 src rfl oks)).mono ?_; rintro x w3 ⟨rfl, hb3⟩; replace hR := (hR.alloc hR.size _).trans (hb3.mono (by first | (simp; done) | (have := hR.size; simp; omega))); obtain ⟨x0, x1, x2, x3, x4, x5, xl⟩ := Hp.out _ hR) | (go_at_call 120; with_reducible refine (HF2.out _ hR).mono ?_; rintro x w4 ⟨rfl, hb4⟩; replace hR := hR.trans (hb4.mono hR.size); obtain ⟨x0, x1, x2, x3, x4, x5, xl⟩ := Hp.out _ hR) | (go_at_call 121; with_reducible refine (HF3.out _ hR).mono ?_; rintro x w5 ⟨rfl, hb5⟩; replace hR := hR.trans (hb5.mono hR.size); obtain ⟨x0, x1, x2, x3, x4, x5, xl⟩ := Hp.out _ hR) | (go_at_call 119; with_reducible refine (HW.out _).mono ?_; rintro x w' ⟨rfl, rfl⟩) | (go_at_call 122; with_reducible refine (HF5.out _ hR).mono ?_; rintro x w' ⟨rfl, rfl⟩))
      go_ret
      exact ⟨ret_bool (by rw [Hfin.out]; simp [Hk0.out, Hpt.out, Hsrc.out]), HB.out _ hR⟩
    ·have hk0' : ((k : Int) == 0) = false := by simp; omega
     have Hk0 := Lhd hk0
     clear hk0
     go_wp2_with (first | (go_at_call 120; with_reducible refine (HF1.out _ _ _ _ (strs_one 9 name rfl okn)).mono ?_; rintro x w2 ⟨rfl, hb2⟩; replace hR := (hR.alloc hR.size _).trans (hb2.mono (by first | (simp; done) | (have := hR.size; simp; omega))); obtain ⟨x0, x1, x2, x3, x4, x5, xl⟩ := Hp.out _ hR) | (go_at_call 120; with_reducible refine (HF4.out _ _ _ _ (strs_one 9 src rfl oks)).mono ?_; rintro x w3 ⟨rfl, hb3⟩; replace hR := (hR.alloc hR.size _).trans (hb3.mono (by first | (simp; done) | (have := hR.size; simp; omega))); obtain ⟨x0, x1, x2, x3, x4, x5, xl⟩ := Hp.out _ hR) | (go_at_call 120; with_reducible refine (HF2.out _ hR).mono ?_; rintro x w4 ⟨rfl, hb4⟩; replace hR := hR.trans (hb4.mono hR.size); obtain ⟨x0, x1, x2, x3, x4, x5, xl⟩ := Hp.out _ hR) | (go_at_call 121; with_reducible refine (HF3.out _ hR).mono ?_; rintro x w5 ⟨rfl, hb5⟩; replace hR := hR.trans (hb5.mono hR.size); obtain ⟨x0, x1, x2, x3, x4, x5, xl⟩ := Hp.out _ hR) | (go_at_call 119; with_reducible refine (HW.out _).mono ?_; rintro x w' ⟨rfl, rfl⟩) | (go_at_call 122; with_reducible refine (HF5.out _ hR).mono ?_; rintro x w' ⟨rfl, rfl⟩))
     go_ret
     exact ⟨ret_bool (by rw [Hfin.out]; simp [Hk0.out, Hsrc.out, h8]), HB.out _ hR⟩
   ·have hsrc' := str_empty hsrc
    have Hsrc := Lhd hsrc
    clear hsrc
    cases hpt : noS part
    ·have hpt' := str_some hpt
     have Hpt := Lhd hpt
     clear hpt
     go_wp2_with (first | (go_at_call 120; with_reducible refine (HF1.out _ _ _ _ (strs_one 9 name rfl okn)).mono ?_; rintro x w2 ⟨rfl, hb2⟩; replace hR := (hR.alloc hR.size _).trans (hb2.mono (by first | (simp; done) | (have := hR.size; simp; omega))); obtain ⟨x0, x1, x2, x3, x4, x5, xl⟩ := Hp.out _ hR) | (go_at_call 120; with_reducible refine (HF4.out _ _ _ _ (strs_one 9 src rfl oks)).mono ?_; rintro x w3 ⟨rfl, hb3⟩; replace hR := (hR.alloc hR.size _).trans (hb3.mono (by first | (simp; done) | (have := hR.size; simp; omega))); obtain ⟨x0, x1, x2, x3, x4, x5, xl⟩ := Hp.out _ hR) | (go_at_call 120; with_reducible refine (HF2.out _ hR).mono ?_; rintro x w4 ⟨rfl, hb4⟩; replace hR := hR.trans (hb4.mono hR.size); obtain ⟨x0, x1, x2, x3, x4, x5, xl⟩ := Hp.out _ hR) | (go_at_call 121; with_reducible refine (HF3.out _ hR).mono ?_; rintro x w5 ⟨rfl, hb5⟩; replace hR := hR.trans (hb5.mono hR.size); obtain ⟨x0, x1, x2, x3, x4, x5, xl⟩ := Hp.out _ hR) | (go_at_call 119; with_reducible refine (HW.out _).mono ?_; rintro x w' ⟨rfl, rfl⟩) | (go_at_call 122; with_reducible refine (HF5.out _ hR).mono ?_; rintro x w' ⟨rfl, rfl⟩))
     go_ret
     exact ⟨ret_bool (by rw [Hfin.out]; simp [Hpt.out, Hsrc.out, h8]), HB.out _ hR⟩
    ·have hpt' := str_empty hpt
     have Hpt := Lhd hpt
     clear hpt
     go_wp2_with (first | (go_at_call 120; with_reducible refine (HF1.out _ _ _ _ (strs_one 9 name rfl okn)).mono ?_; rintro x w2 ⟨rfl, hb2⟩; replace hR := (hR.alloc hR.size _).trans (hb2.mono (by first | (simp; done) | (have := hR.size; simp; omega))); obtain ⟨x0, x1, x2, x3, x4, x5, xl⟩ := Hp.out _ hR) | (go_at_call 120; with_reducible refine (HF4.out _ _ _ _ (strs_one 9 src rfl oks)).mono ?_; rintro x w3 ⟨rfl, hb3⟩; replace hR := (hR.alloc hR.size _).trans (hb3.mono (by first | (simp; done) | (have := hR.size; simp; omega))); obtain ⟨x0, x1, x2, x3, x4, x5, xl⟩ := Hp.out _ hR) | (go_at_call 120; with_reducible refine (HF2.out _ hR).mono ?_; rintro x w4 ⟨rfl, hb4⟩; replace hR := hR.trans (hb4.mono hR.size); obtain ⟨x0, x1, x2, x3, x4, x5, xl⟩ := Hp.out _ hR) | (go_at_call 121; with_reducible refine (HF3.out _ hR).mono ?_; rintro x w5 ⟨rfl, hb5⟩; replace hR := hR.trans (hb5.mono hR.size); obtain ⟨x0, x1, x2, x3, x4, x5, xl⟩ := Hp.out _ hR) | (go_at_call 119; with_reducible refine (HW.out _).mono ?_; rintro x w' ⟨rfl, rfl⟩) | (go_at_call 122; with_reducible refine (HF5.out _ hR).mono ?_; rintro x w' ⟨rfl, rfl⟩))
     go_ret
     exact ⟨ret_bool (by rw [Hfin.out]; simp [Hpt.out, Hsrc.out, h8]), HB.out _ hR⟩
theorem rightB_eq (d : Nat) (p : Pr) : rightB d p = (headsR p.name p.src p.part p.fuel p.params && smallZ (allZ 0 (sizeS d 0) (0, 0) p.body) && p.body.all (builtS d)) := rfl
theorem right_any (F : Nat → Prop) (d : Nat) (p : Pr) (row : List Value) (w : World) (h : PrAt F d w row p) (hd : d ≤ 10000) (hbig : p.params.length ≤ 1000000) :
  Calls Tryz.prog 34 #[.agg row.toArray] w fun x w' => x = .returned (.bool (rightB d p)) ∧ Below w.heap.size w w' := by
 obtain ⟨okn, oks, okp, _, Ap, np, cp, Ab, nb, cb, rfl, hpl, hbl⟩ := h
 rw [hpl.len] at hbig
 have hb1 : Below w.heap.size w (w.alloc (.cells #[.string p.name, .string p.src, .string p.part, .int .i64 p.fuel, .slice Ap np cp, .slice Ab nb cb] 50)) := (Below.refl _ _).alloc (Nat.le_refl _) _
 have hx1 : IsBlk (w.alloc (.cells #[.string p.name, .string p.src, .string p.part, .int .i64 p.fuel, .slice Ap np cp, .slice Ab nb cb] 50)) w.heap.size 50 #[.string p.name, .string p.src, .string p.part, .int .i64 p.fuel, .slice Ap np cp, .slice Ab nb cb] := IsBlk.laid _ _ _
 have Hx1 := Lhd hx1
 have Ha := Lhd (allS_any F d (sizeS_any F d) Ab nb cb p.body 0 _ (hbl.below hb1) (by omega) (by omega))
 have Hh := Lhd (fun W (hW : Below w.heap.size w W) => heads_any F p.name p.src p.part p.fuel Ap Ab np cp nb cb p.params W (hpl.below hW) okn oks hbig)
 have Hb := Lhd (fun W (hW : Below w.heap.size w W) => blocks_any F d Ab nb cb p.body W (hbl.below hW))
 have hfin := rightB_eq d p
 generalize allZ 0 (sizeS d 0) (0, 0) p.body = s at *
 generalize headsR p.name p.src p.part p.fuel p.params = qh at *
 generalize p.body.all (builtS d) = qb at *
 generalize rightB d p = fin at *
 have Hfin := Lhd hfin
 clear hfin hx1
 obtain ⟨s1, s2⟩ := s
 go_enter Tryz.func34, Tryz.ntmps34
 go_upto_region 2 with (go_at_call 72; refine Ha.out.mono ?_; rintro x w1 ⟨rfl, hb⟩; have hx2 := Hx1.out.as_was (hb.block _ Hx1.out.lt))
 have hz := hb.size
 simp at hz
 have hk : IsBlk (w1.alloc (.cells #[.int .i64 s1, .int .i64 s2] 104)) w1.heap.size 104 #[.int .i64 s1, .int .i64 s2] := IsBlk.laid _ _ _
 have hx3 := hx2.alloc (.cells #[.int .i64 s1, .int .i64 s2] 104)
 have hb2 := (hb1.trans (hb.mono hb1.size)).alloc (by omega) (.cells #[.int .i64 s1, .int .i64 s2] 104)
 have Hk := Lhd hk
 have Hx3 := Lhd hx3
 have Hs := Lhd (fun W (h : IsBlk W w1.heap.size 104 #[.int .i64 s1, .int .i64 s2]) => small_any _ s1 s2 W h)
 obtain ⟨z0, z1, z2, z3, z4, z5, zl⟩ := prBox hx2
 clear hk hx2 hx3
 generalize smallZ (s1, s2) = qs at *
 cases qh <;> cases qs
 all_goals
  go_wp2_with (first | (go_at_call 74; refine (Hh.out _ hb2).mono ?_; rintro x w3 ⟨rfl, hb3⟩; have hk3 := Hk.out.as_was (hb3.block _ Hk.out.lt); have hx4 := Hx3.out.as_was (hb3.block _ Hx3.out.lt); have hb03 := hb2.trans (hb3.mono hb2.size); obtain ⟨y0, y1, y2, y3, y4, y5, yl⟩ := prBox hx4) | (go_at_call 44; refine (Hs.out _ hk3).mono ?_; rintro x w' ⟨rfl, rfl⟩) | (go_at_call 75; refine (Hb.out _ hb03).mono ?_; rintro x w4 ⟨rfl, hb4⟩))
  go_ret
  first | exact ⟨ret_bool (by rw [Hfin.out]; simp), hb03.trans (hb4.mono hb03.size)⟩ | exact ⟨ret_bool (by rw [Hfin.out]; simp), hb03⟩
end Go.Proofs.YtjpiedpmnnepgaaGreatDoor
namespace Go.Afx
open Go.RowKit
def startsAt (n : Nat) : Code → Bool
 | .region i _ _ => i == n
 | .seq a _ => startsAt n a
 | .block _ c => startsAt n c
 | .scope c => startsAt n c
 | .loop c => startsAt n c
 | _ => false
def findLoop (n : Nat) : Code → Option Code
 | .loop c => if startsAt n c then some c else findLoop n c
 | .seq a b => match findLoop n a with
  | some c => some c
  | none => findLoop n b
 | .block _ c => findLoop n c
 | .scope c => findLoop n c
 | .cond _ a b => match findLoop n a with
  | some c => some c
  | none => findLoop n b
 | _ => none
def findRegion (n : Nat) : Code → Option Code
 | .region i ops d => if i == n then some (.region i ops d) else none
 | .loop c => findRegion n c
 | .seq a b => match findRegion n a with
  | some c => some c
  | none => findRegion n b
 | .block _ c => findRegion n c
 | .scope c => findRegion n c
 | .cond _ a b => match findRegion n a with
  | some c => some c
  | none => findRegion n b
 | _ => none
def noPanic (Q : Exit → Act → World → Prop) : Exit → Act → World → Prop
 | .panic _, _, _ => False
 | e, a, w => Q e a w
section
variable {P : Program} {md : Region.Mode} {ops : Array Oper} {Q : Exit → Act → World → Prop} {S : World → Prop}
theorem tk (i : Nat) (v : Value) {oi : Oper} {fuel : Nat} {listed : Array Bool} {a : Act} {w : World} (hi : ops[i]? = some oi) (hS : S w) (h : wpAnyH P md ops Q S fuel (listed.setIfInBounds i true) (a.put oi.dst v) w)
  (hs : Region.noSelect ops = true := by kernel_rfl) (hf : Region.free md ops listed i = true := by kernel_rfl) (hr : (Region.ready md ops listed).contains i = true := by kernel_rfl)
  (hQ : ∀ c a w, Q (.panic c) (a.put oi.dst v) w → Q (.panic c) a w := by exact fun _ _ _ h => h) (hy : YieldsIf P ops S oi v a := by exact Or.inl ⟨by rfl, fun W hW => by first | (go_simp; done) | (obtain ⟨_, _, _, _⟩ := hW; go_simp)⟩) : wpAnyH P md ops Q S (fuel + 1) listed a w :=
 wpAnyH_take hi hs hf hr hQ hy hS h
end
end Go.Afx
namespace Go.Afx
open Go.RowKit
def digs (n : Nat) : List UInt8 := if _h : n = 0 then [] else digs (n / 10) ++ [UInt8.ofNat (48 + n % 10)]
termination_by n
decreasing_by omega
theorem digs_zero : digs 0 = [] := by rw [digs]; rfl
theorem digs_pos {n : Nat} (h : 0 < n) : digs n = digs (n / 10) ++ [UInt8.ofNat (48 + n % 10)] := by
 rw [digs, dif_neg (by omega)]
theorem digs_len (k : Nat) : ∀ n, n < 10 ^ k → (digs n).length ≤ k := by
  induction k with
  | zero => intro n h; obtain rfl : n = 0 := by simpa using h
            rw [digs_zero]; exact Nat.le_refl _
  | succ k ih =>
    intro n h
    rcases Nat.eq_zero_or_pos n with rfl | hp
    · rw [digs_zero]; exact Nat.zero_le _
    · rw [digs_pos hp, List.length_append]
      have := ih (n / 10) (by rw [Nat.pow_succ] at h; omega)
      simp only [List.length_cons, List.length_nil]
      omega
def decS (n : Int) : List UInt8 := if n = 0 then [48] else digs n.toNat
theorem decS_len {n : Int} (h : okI n) : (decS n).length ≤ 19 := by
  unfold decS okI at *
  split
  · decide
  · exact digs_len 19 _ (by have : (10 : Nat) ^ 19 = 10000000000000000000 := by decide
                            omega)
def dbl (l : List UInt8) : List UInt8 := l.flatMap fun c => if c = 39 then [39, 39] else [c]
theorem dbl_len (l : List UInt8) : (dbl l).length ≤ 2 * l.length := by
 induction l with
 | nil => decide
 | cons a r ih =>
  unfold dbl at *
  rw [List.flatMap_cons, List.length_append, List.length_cons]
  split <;> simp only [List.length_cons, List.length_nil] <;> omega
def quoteS (s : ByteArray) : List UInt8 := [39] ++ dbl s.data.toList ++ [39]
def sgnT : List (List UInt8) := [[43], [45], [42], [47], [37], [61], [33, 61], [60], [60, 61], [62, 61], [62], [97, 110, 100], [111, 114], [110, 111, 116, 32], [45], [99, 111, 117, 110, 116], [115, 117, 109], [109, 105, 110], [109, 97, 120]]
def lvlT : List Int := [5, 5, 6, 6, 6, 4, 4, 4, 4, 4, 4, 2, 1, 3, 7, 8, 8, 8, 8]
def sgnL (op : Int) : List UInt8 := if op < 6 then [] else sgnT.getD (op - 6).toNat []
def lvlZ (op : Int) : Int := if op < 6 then 8 else lvlT.getD (op - 6).toNat 8
theorem op_cases {op : Int} (h1 : 1 ≤ op) (h2 : op ≤ 24) : op = 1 ∨ op = 2 ∨ op = 3 ∨ op = 4 ∨ op = 5 ∨ op = 6 ∨ op = 7 ∨ op = 8 ∨ op = 9 ∨ op = 10 ∨ op = 11 ∨ op = 12 ∨ op = 13 ∨ op = 14 ∨ op = 15 ∨ op = 16 ∨ op = 17 ∨ op = 18 ∨ op = 19 ∨ op = 20 ∨ op = 21 ∨ op = 22 ∨ op = 23 ∨ op = 24 := by omega
theorem sgnL_len {op : Int} (h1 : 1 ≤ op) (h2 : op ≤ 24) : (sgnL op).length ≤ 5 := by
 rcases op_cases h1 h2 with rfl | rfl | rfl | rfl | rfl | rfl | rfl | rfl | rfl | rfl | rfl | rfl | rfl | rfl | rfl | rfl | rfl | rfl | rfl | rfl | rfl | rfl | rfl | rfl <;> decide
theorem lvlZ_bd {op : Int} (h1 : 1 ≤ op) (h2 : op ≤ 24) : 1 ≤ lvlZ op ∧ lvlZ op ≤ 8 := by
 rcases op_cases h1 h2 with rfl | rfl | rfl | rfl | rfl | rfl | rfl | rfl | rfl | rfl | rfl | rfl | rfl | rfl | rfl | rfl | rfl | rfl | rfl | rfl | rfl | rfl | rfl | rfl <;> decide
def opnd (least op : Int) (t : List UInt8) : List UInt8 := if lvlZ op < least then [40] ++ t ++ [41] else t
def whereT (op n : Int) (t : List UInt8) : List UInt8 := if op = 3 ∧ n = 1 then [] else [32, 119, 104, 101, 114, 101, 32] ++ t
def rowsT (name src : ByteArray) (op n : Int) (t : List UInt8) : List UInt8 := name.data.toList ++ [32, 105, 110, 32] ++ src.data.toList ++ whereT op n t
def trueL : List UInt8 := [116, 114, 117, 101]
def falseL : List UInt8 := [102, 97, 108, 115, 101]
def txtE : Nat → Ex → List UInt8
 | 0, _ => []
 | d + 1, e =>
  if e.op = 1 then decS e.n
  else if e.op = 2 then quoteS e.s
  else if e.op = 3 then (if e.n = 1 then trueL else falseL)
  else if e.op = 4 then e.name.data.toList
  else if e.op = 5 then e.name.data.toList ++ [46] ++ e.s.data.toList
  else match e.args with
   | [] => []
   | a :: r =>
    if e.op = 19 ∨ e.op = 20 then sgnL e.op ++ opnd (lvlZ e.op) a.op (txtE d a)
    else if 21 ≤ e.op then sgnL e.op ++ [40] ++ rowsT e.name e.src a.op a.n (txtE d a) ++ (if e.op = 21 then [] else [58, 32] ++ (match r with | [] => [] | b :: _ => txtE d b)) ++ [41]
    else opnd (lvlZ e.op + if lvlZ e.op = 4 then 1 else 0) a.op (txtE d a) ++ ([32] ++ sgnL e.op ++ [32]) ++ (match r with | [] => [] | b :: _ => opnd (lvlZ e.op + 1) b.op (txtE d b))
def nlE : Nat → Ex → Bool
 | 0, _ => false
 | d + 1, e => (decide (e.op = 2) && e.s.data.toList.any (· == 10)) || e.args.any (nlE d)
theorem built_parts {d : Nat} {e : Ex} (h : builtE (d + 1) e = true) : arityB e.op = e.args.length ∧ fieldsR e.op e.n e.s e.name e.src = true ∧ ∀ x ∈ e.args, builtE d x = true := by
 rw [builtE] at h
 unfold headE fieldsE at h
 simp only [Bool.and_eq_true, decide_eq_true_eq, List.all_eq_true] at h
 exact ⟨h.1.1, h.1.2, h.2⟩
theorem arity_op {op : Int} {n : Nat} (h : arityB op = (n : Int)) : 1 ≤ op ∧ op ≤ 24 := by
 unfold arityB at h
 split at h
 ·omega
 ·split at h
  ·omega
  ·split at h
   ·omega
   ·split at h
    ·omega
    ·split at h <;> omega
theorem built_op {d : Nat} {e : Ex} (h : builtE d e = true) : 1 ≤ e.op ∧ e.op ≤ 24 := by
 cases d with
 | zero => cases h
 | succ d => exact arity_op (built_parts h).1
theorem named_len {s : ByteArray} (h : freeB s = true) : s.data.toList.length ≤ 16 := by
 unfold freeB namedB at h
 revert h
 generalize s.data.toList = l
 cases l with
 | nil => intro _; decide
 | cons a r =>
  intro h
  simp only [Bool.and_eq_true, decide_eq_true_eq] at h
  simp only [List.length_cons]
  omega
theorem opnd_len (least op : Int) (t : List UInt8) : (opnd least op t).length ≤ t.length + 2 := by
 unfold opnd
 split
 ·simp only [List.length_append, List.length_cons, List.length_nil]; omega
 ·omega
theorem whereT_len (op n : Int) (t : List UInt8) : (whereT op n t).length ≤ t.length + 7 := by
 unfold whereT
 split
 ·simp
 ·simp only [List.length_append, List.length_cons, List.length_nil]; omega
end Go.Afx
