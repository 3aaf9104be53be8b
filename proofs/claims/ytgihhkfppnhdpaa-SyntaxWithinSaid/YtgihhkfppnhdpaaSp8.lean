/- Parts of this proof, one behind the other: SynM, SynN, SynO, SynR, SynS, SynT0. -/
import Derived.Test.YtgihhkfppnhdpaaSp7
import Derived.Maps.Own
import Derived.Maps.Views
import Derived.Test.YtgihhkfppnhdpaaSp1
import Derived.Deep.RegionLaw
import Derived.Deep.CutRange
namespace Go.Proofs.Ytgihhkfppnhdpaa
open Go.RowKit Go.Afx

def CoRow (r : List Value) (c : Co) : Prop := r = [.string c.name, .int .i64 c.kind] ∧ okS c.name ∧ okI c.kind
/-- 'these six cells are the procedure p' -/
def PrAt (F : Nat → Prop) (d : Nat) (w : World) (r : List Value) (p : Pr) : Prop := okS p.name ∧ okS p.src ∧ okS p.part ∧ okI p.fuel ∧
  ∃ Ap np cp Ab nb cb, r = [.string p.name, .string p.src, .string p.part, .int .i64 p.fuel, .slice Ap np cp, .slice Ab nb cb] ∧ LsAt F w 2 CoRow Ap np cp p.params ∧ StsAt F d w Ab nb cb p.body
theorem PrAt.conv {F F' : Nat → Prop} (hF : ∀ k, F k → F' k) {w w' : World} (hk : Kept F w w') {d d' : Nat} (hd : d ≤ d') {r : List Value} {p : Pr} (h : PrAt F d w r p) : PrAt F' d' w' r p := by
  obtain ⟨h1, h2, h3, h4, Ap, np, cp, Ab, nb, cb, hr, k1, k2⟩ := h
  exact ⟨h1, h2, h3, h4, Ap, np, cp, Ab, nb, cb, hr, k1.conv hk (fun _ _ _ h => hF _ h) (fun _ _ _ h => h), StsAt.conv hF hk hd k2⟩
theorem PrAt.below {F : Nat → Prop} {w w' : World} {d : Nat} {r : List Value} {p : Pr} (h : PrAt F d w r p) (hb : Below w.heap.size w w') : PrAt F d w' r p := PrAt.conv (fun _ h => h) (Kept.of_below hb) (Nat.le_refl _) h

theorem coAt {F : Nat → Prop} {w : World} {A : Option Addr} {n c : Nat} {xs : List Co} (h : LsAt F w 2 CoRow A n c xs) {k : Nat} (hk : k < n) :
    ∃ b o x, A = some ⟨b, o, none⟩ ∧ b < w.heap.size ∧ xs[k]? = some x ∧ okS x.name ∧ okI x.kind ∧ w.cell? ⟨b, o + k * 2, none⟩ = some (.string x.name) ∧ w.cell? ⟨b, o + k * 2 + 1, none⟩ = some (.int .i64 x.kind) := by
  obtain ⟨b, o, r, x, hA, hb, _, hx, hl, ⟨rfl, h1, h2⟩, hc⟩ := h.get hk
  exact ⟨b, o, x, hA, hb, hx, h1, h2, by simpa using hc 0 _ rfl, hc 1 _ rfl⟩

theorem prBox {w : World} {g : Nat} {T : TypeId} {fuel : Int} {name src part : ByteArray} {Ap Ab : Option Addr} {np cp nb cb : Nat} (h : IsBlk w g T #[.string name, .string src, .string part, .int .i64 fuel, .slice Ap np cp, .slice Ab nb cb]) :
    w.cell? ⟨g, 0, none⟩ = some (.string name) ∧ w.cell? ⟨g, 1, none⟩ = some (.string src) ∧ w.cell? ⟨g, 2, none⟩ = some (.string part) ∧ w.cell? ⟨g, 3, none⟩ = some (.int .i64 fuel) ∧ w.cell? ⟨g, 4, none⟩ = some (.slice Ap np cp) ∧ w.cell? ⟨g, 5, none⟩ = some (.slice Ab nb cb) ∧ g < w.heap.size := by
  have h0 := h.cell 0; have h1 := h.cell 1; have h2 := h.cell 2; have h3 := h.cell 3; have h4 := h.cell 4; have h5 := h.cell 5
  simp at h0 h1 h2 h3 h4 h5
  exact ⟨h0, h1, h2, h3, h4, h5, h.lt⟩

def srow (s : ByteArray) : List Value := [.string s]
theorem srow_len : ∀ {xs : List ByteArray} (r : List Value), r ∈ xs.map srow → r.length = 1 := by
  intro xs r hr; obtain ⟨p, _, rfl⟩ := List.mem_map.1 hr; rfl
theorem srow_one : ∀ {xs : List ByteArray} (r : List Value), r ∈ xs.map srow → ∀ u ∈ r, u.oneCell' = true := by
  intro xs r hr u hu
  obtain ⟨p, _, rfl⟩ := List.mem_map.1 hr
  simp only [srow, List.mem_singleton] at hu
  subst hu; rfl
theorem LsAt.of_own {w : World} {base : Nat} {T : TypeId} {A : Option Addr} {n c : Nat} {xs : List ByteArray} (h : w.ownsRow base T 1 (.slice A n c) n (xs.map srow).flatten) (hn : xs.length = n) (hok : ∀ x ∈ xs, okS x) : LsAt (fun _ => True) w 1 SRow A n c xs :=
  ⟨xs.map srow, RowsAt.of_own h srow_len (by simpa using hn), fun _ _ _ => trivial, by simp, fun k r x hr hx => by
    rw [List.getElem?_map, hx] at hr
    simp at hr
    subst hr
    exact ⟨rfl, rfl, hok x (List.mem_of_getElem? hx)⟩⟩

theorem heads_bad {name src part : ByteArray} {fuel : Int} {params : List Co} (h : ∃ c ∈ params, kindB c = false) : headsR name src part fuel params = false := by
  have : params.all kindB = false := by
    rw [List.all_eq_false]
    obtain ⟨c, hc, hk⟩ := h
    exact ⟨c, hc, by simp [hk]⟩
  simp [headsR, this]

set_option maxRecDepth 100000 in
set_option maxHeartbeats 4000000 in
theorem heads_any (F : Nat → Prop) (name src part : ByteArray) (fuel : Int) (Ap Ab : Option Addr) (np cp nb cb : Nat) (params : List Co) (w : World) (hp : LsAt F w 2 CoRow Ap np cp params) (okn : okS name) (oks : okS src) (hbig : np ≤ 1000000) :
    Calls Try.prog 36 #[.agg #[.string name, .string src, .string part, .int .i64 fuel, .slice Ap np cp, .slice Ab nb cb]] w fun x w' => x = .returned (.bool (headsR name src part fuel params)) ∧ Below w.heap.size w w' := by
  have hlen := hp.len
  obtain ⟨w1, Hw1⟩ : ∃ w1, Hid (w1 = w.alloc (.cells #[.string name, .string src, .string part, .int .i64 fuel, .slice Ap np cp, .slice Ab nb cb] 34)) := ⟨_, rfl⟩
  have hx1 : IsBlk w1 w.heap.size 34 #[.string name, .string src, .string part, .int .i64 fuel, .slice Ap np cp, .slice Ab nb cb] := by rw [Hw1.out]; exact IsBlk.laid _ _ _
  have hb1 : Below w.heap.size w w1 := by rw [Hw1.out]; exact (Below.refl _ _).alloc (Nat.le_refl _) _
  have hz1 : w1.heap.size = w.heap.size + 1 := by rw [Hw1.out]; simp
  have Hx1 := Lib.hid hx1
  have Hz1 := Lib.hid hz1
  have hx4 := hx1.cell 4
  simp at hx4
  have hxl := hx1.lt
  clear hz1 hx1
  go_enter Try.func36, Try.ntmps36
  go_upto_region 2 with (fail)
  rw [← Hw1.out]
  go_wp2_with (fail)
  have Hlen := Lib.hid hlen
  clear hlen
  go_loopw [3, 9] (fun v i wr => ∃ (k : Nat) (A2 : Option Addr) (c2 : Nat), k ≤ np ∧ i = .int .i64 k ∧ v = .slice A2 k c2 ∧ (∀ y ∈ params.take k, kindB y = true) ∧ wr.ownsRow w1.heap.size 9 1 (.slice A2 k c2) k (((params.take k).map Co.name).map srow).flatten ∧ Below w1.heap.size w1 wr) (fun _ i _ => np - (intOf i).toNat)
  case atStart => exact ⟨0, none, 0, Nat.zero_le _, rfl, rfl, by simp, World.ownsRow_nil _ _ _ _, Below.refl _ _⟩
  case round =>
    obtain ⟨k, A2, c2, hk, rfl, rfl, hall, hown, hb⟩ := hrel
    have Hall := Lib.hid hall; clear hall
    have hzw := hb.size
    have hb0 := hb1.trans (hb.mono hb1.size)
    by_cases hlt : k < np
    · obtain ⟨b, o, x, rfl, hbl, hx, hxn, hxk, hc0, hc1⟩ := coAt (hp.below hb0) hlt
      have Hx := Lib.hid hx
      have hq := fun W => within_any x.kind 1 3 W
      obtain ⟨q, Hq⟩ : ∃ q, Hid (kindB x = q) := ⟨_, rfl⟩
      have hq2 : (decide (1 ≤ x.kind) && decide (x.kind ≤ 3)) = q := Hq.out
      rw [hq2] at hq
      have HQ := Lib.hid hq
      clear hq hq2 hx
      cases q
      · go_wp2_with (go_at_call 54; refine (HQ.out _).mono ?_; rintro y w' ⟨rfl, rfl⟩)
        go_ret
        exact ⟨ret_bool (heads_bad ⟨x, List.mem_of_getElem? Hx.out, Hq.out⟩).symm, hb0.alloc hb0.size _⟩
      · have Hnx := Lib.hid (mem_take_succ Hx.out Hall.out Hq.out)
        have hown2 : ((wr.alloc (.cells #[.string x.name, .int .i64 x.kind] 84)).alloc (.cells #[.string x.name] 9)).ownsRow w1.heap.size 9 1 (.slice A2 k c2) k (((params.take k).map Co.name).map srow).flatten := (hown.alloc _).alloc _
        have hnew : RowsAt ((wr.alloc (.cells #[.string x.name, .int .i64 x.kind] 84)).alloc (.cells #[.string x.name] 9)) 1 (some ⟨wr.heap.size + 1, 0, none⟩) 1 1 ([x.name].map srow) := RowsAt.lit' _ _ 1 (by simp) rfl srow_len rfl (by unfold maxLen; omega)
        have hb2 : Below wr.heap.size wr ((wr.alloc (.cells #[.string x.name, .int .i64 x.kind] 84)).alloc (.cells #[.string x.name] 9)) := ((Below.refl _ _).alloc (Nat.le_refl _) _).alloc (by simp) _
        go_wp2_with (first | (go_at_call 54; refine (HQ.out _).mono ?_; rintro y w' ⟨rfl, rfl⟩) | (at_builtin; refine wpList_app rfl rfl tyStr rfl hown2 rfl hnew srow_len srow_one ?_ ?_ ?_ ?_; (unfold maxLen; omega); omega; (simp; omega); intro A3 c3 w3 hown3 hbut3 hf3))
        go_roundw
        case rel =>
          rw [← List.map_append] at hown3
          refine ⟨k + 1, A3, c3, by omega, by go_num, rfl, Hnx.out, by rw [take_succ_of' Hx.out, List.map_append]; exact hown3, ?_⟩
          exact hb.trans ((hb2.mono hzw).trans (hbut3.below' (by simp; omega) (fun i hi => by
            cases A2 with
            | none => cases hi
            | some a2 => have h := hown2.lt a2.block rfl; simp at hi; omega)))
        case measure => simp [intOf]; omega
    · obtain rfl : k = np := by omega
      have hpar : params.take k = params := List.take_of_length_le (by rw [Hlen.out]; omega)
      have hallp : params.all kindB = true := by rw [List.all_eq_true]; have h := Hall.out; rw [hpar] at h; exact h
      rw [hpar] at hown
      have hokn : ∀ y ∈ params.map Co.name, okS y := by
        intro y hy
        obtain ⟨c, hc, rfl⟩ := List.mem_map.1 hy
        obtain ⟨i, hi⟩ := List.mem_iff_getElem?.1 hc
        have hik : i < k := by have := (List.getElem?_eq_some_iff.1 hi).1; rw [Hlen.out] at this; exact this
        obtain ⟨b, o, x, _, _, hx, hxn, _⟩ := coAt (hp.below hb0) hik
        rw [hi] at hx
        cases hx
        exact hxn
      have hnl : (params.map Co.name).length = k := by rw [List.length_map, Hlen.out]
      have HN := Lib.hid (fun W (hW : Below wr.heap.size wr W) => LsAt.of_own (own_below hown hW) hnl hokn)
      have hfin : headsR name src part fuel params = (freeB name && decide (k ≤ 8) && freesB (params.map Co.name) && decide (params.map Co.name).Nodup && (decide (1 ≤ fuel) && decide (fuel ≤ 2000)) &&
          (if noS src then noS part || (params.map Co.name).any fun x => decide (x = part) else freeB src && decide (k = 0) && noS part)) := by
        rw [headsR, hallp, Hlen.out, Bool.true_and]
      have hcon : ((params.map Co.name).any fun y => part.toList == y.toList) = (params.map Co.name).any fun x => decide (x = part) := by
        congr 1; funext x; rw [bs_eq, decide_eq_decide]; exact eq_comm
      have HF1 := Lib.hid (fun (W : World) A m c (h : LsAt (fun _ => True) W 1 SRow A m c [name]) => free_any _ A m c _ W h)
      have HF2 := Lib.hid (fun (W : World) (hW : Below wr.heap.size wr W) => free_any _ _ _ _ _ W (HN.out W hW))
      have HF3 := Lib.hid (fun (W : World) (hW : Below wr.heap.size wr W) => unlike_any _ _ _ _ _ W (HN.out W hW) hbig)
      have HF4 := Lib.hid (fun (W : World) A m c (h : LsAt (fun _ => True) W 1 SRow A m c [src]) => free_any _ A m c _ W h)
      have HF5 := Lib.hid (fun (W : World) (hW : Below wr.heap.size wr W) => containsS_any _ _ _ _ _ part W (HN.out W hW))
      have HW := Lib.hid (fun W => within_any fuel 1 2000 W)
      rw [freesB_one] at HF1 HF4
      rw [hcon] at HF5
      obtain ⟨q1, Hq1⟩ : ∃ q, Hid (freeB name = q) := ⟨_, rfl⟩
      obtain ⟨q2, Hq2⟩ : ∃ q, Hid (freesB (params.map Co.name) = q) := ⟨_, rfl⟩
      obtain ⟨q3, Hq3⟩ : ∃ q, Hid (decide (params.map Co.name).Nodup = q) := ⟨_, rfl⟩
      obtain ⟨q4, Hq4⟩ : ∃ q, Hid (freeB src = q) := ⟨_, rfl⟩
      obtain ⟨q5, Hq5⟩ : ∃ q, Hid (((params.map Co.name).any fun x => decide (x = part)) = q) := ⟨_, rfl⟩
      obtain ⟨q6, Hq6⟩ : ∃ q, Hid ((decide (1 ≤ fuel) && decide (fuel ≤ 2000)) = q) := ⟨_, rfl⟩
      rw [Hq1.out] at HF1 hfin
      rw [Hq2.out] at HF2 hfin
      rw [Hq3.out] at HF3 hfin
      rw [Hq4.out] at HF4 hfin
      rw [Hq5.out] at HF5 hfin
      rw [Hq6.out] at HW hfin
      have Hfin := Lib.hid hfin
      have Hp := Lib.hid (fun W (hW : Below wr.heap.size wr W) => prBox (Hx1.out.as_was ((hb.trans (hW.mono hzw)).block _ hxl)))
      have HB := Lib.hid (fun W (hW : Below wr.heap.size wr W) => hb0.trans (hW.mono hb0.size))
      have hR : Below wr.heap.size wr wr := Below.refl _ _
      have hnk : k ≤ 9223372036854775807 := by omega
      obtain ⟨x0, x1, x2, x3, x4, x5, xl⟩ := Hp.out _ hR
      clear hfin hcon hnl hokn hallp hpar hp hown Hlen
      cases q1
      · go_wp2_with (first | (go_at_call 9; with_reducible refine (HF1.out _ _ _ _ (strs_one 9 name rfl okn)).mono ?_; rintro x w2 ⟨rfl, hb2⟩; replace hR := (hR.alloc hR.size _).trans (hb2.mono (by first | (simp; done) | (have := hR.size; simp; omega))); obtain ⟨x0, x1, x2, x3, x4, x5, xl⟩ := Hp.out _ hR) | (go_at_call 9; with_reducible refine (HF4.out _ _ _ _ (strs_one 9 src rfl oks)).mono ?_; rintro x w3 ⟨rfl, hb3⟩; replace hR := (hR.alloc hR.size _).trans (hb3.mono (by first | (simp; done) | (have := hR.size; simp; omega))); obtain ⟨x0, x1, x2, x3, x4, x5, xl⟩ := Hp.out _ hR) | (go_at_call 9; with_reducible refine (HF2.out _ hR).mono ?_; rintro x w4 ⟨rfl, hb4⟩; replace hR := hR.trans (hb4.mono hR.size); obtain ⟨x0, x1, x2, x3, x4, x5, xl⟩ := Hp.out _ hR) | (go_at_call 55; with_reducible refine (HF3.out _ hR).mono ?_; rintro x w5 ⟨rfl, hb5⟩; replace hR := hR.trans (hb5.mono hR.size); obtain ⟨x0, x1, x2, x3, x4, x5, xl⟩ := Hp.out _ hR) | (go_at_call 54; with_reducible refine (HW.out _).mono ?_; rintro x w' ⟨rfl, rfl⟩) | (go_at_call 20; with_reducible refine (HF5.out _ hR).mono ?_; rintro x w' ⟨rfl, rfl⟩))
        go_ret
        exact ⟨ret_bool (by rw [Hfin.out]; simp), HB.out _ hR⟩
      by_cases h8 : k ≤ 8
      rotate_left
      · have h8' : (8 : Int) < (k : Int) := by omega
        go_wp2_with (first | (go_at_call 9; with_reducible refine (HF1.out _ _ _ _ (strs_one 9 name rfl okn)).mono ?_; rintro x w2 ⟨rfl, hb2⟩; replace hR := (hR.alloc hR.size _).trans (hb2.mono (by first | (simp; done) | (have := hR.size; simp; omega))); obtain ⟨x0, x1, x2, x3, x4, x5, xl⟩ := Hp.out _ hR) | (go_at_call 9; with_reducible refine (HF4.out _ _ _ _ (strs_one 9 src rfl oks)).mono ?_; rintro x w3 ⟨rfl, hb3⟩; replace hR := (hR.alloc hR.size _).trans (hb3.mono (by first | (simp; done) | (have := hR.size; simp; omega))); obtain ⟨x0, x1, x2, x3, x4, x5, xl⟩ := Hp.out _ hR) | (go_at_call 9; with_reducible refine (HF2.out _ hR).mono ?_; rintro x w4 ⟨rfl, hb4⟩; replace hR := hR.trans (hb4.mono hR.size); obtain ⟨x0, x1, x2, x3, x4, x5, xl⟩ := Hp.out _ hR) | (go_at_call 55; with_reducible refine (HF3.out _ hR).mono ?_; rintro x w5 ⟨rfl, hb5⟩; replace hR := hR.trans (hb5.mono hR.size); obtain ⟨x0, x1, x2, x3, x4, x5, xl⟩ := Hp.out _ hR) | (go_at_call 54; with_reducible refine (HW.out _).mono ?_; rintro x w' ⟨rfl, rfl⟩) | (go_at_call 20; with_reducible refine (HF5.out _ hR).mono ?_; rintro x w' ⟨rfl, rfl⟩))
        go_ret
        exact ⟨ret_bool (by rw [Hfin.out]; simp [h8]), HB.out _ hR⟩
      have h8' : (k : Int) ≤ 8 := by omega
      cases q2
      · go_wp2_with (first | (go_at_call 9; with_reducible refine (HF1.out _ _ _ _ (strs_one 9 name rfl okn)).mono ?_; rintro x w2 ⟨rfl, hb2⟩; replace hR := (hR.alloc hR.size _).trans (hb2.mono (by first | (simp; done) | (have := hR.size; simp; omega))); obtain ⟨x0, x1, x2, x3, x4, x5, xl⟩ := Hp.out _ hR) | (go_at_call 9; with_reducible refine (HF4.out _ _ _ _ (strs_one 9 src rfl oks)).mono ?_; rintro x w3 ⟨rfl, hb3⟩; replace hR := (hR.alloc hR.size _).trans (hb3.mono (by first | (simp; done) | (have := hR.size; simp; omega))); obtain ⟨x0, x1, x2, x3, x4, x5, xl⟩ := Hp.out _ hR) | (go_at_call 9; with_reducible refine (HF2.out _ hR).mono ?_; rintro x w4 ⟨rfl, hb4⟩; replace hR := hR.trans (hb4.mono hR.size); obtain ⟨x0, x1, x2, x3, x4, x5, xl⟩ := Hp.out _ hR) | (go_at_call 55; with_reducible refine (HF3.out _ hR).mono ?_; rintro x w5 ⟨rfl, hb5⟩; replace hR := hR.trans (hb5.mono hR.size); obtain ⟨x0, x1, x2, x3, x4, x5, xl⟩ := Hp.out _ hR) | (go_at_call 54; with_reducible refine (HW.out _).mono ?_; rintro x w' ⟨rfl, rfl⟩) | (go_at_call 20; with_reducible refine (HF5.out _ hR).mono ?_; rintro x w' ⟨rfl, rfl⟩))
        go_ret
        exact ⟨ret_bool (by rw [Hfin.out]; simp), HB.out _ hR⟩
      cases q3
      · go_wp2_with (first | (go_at_call 9; with_reducible refine (HF1.out _ _ _ _ (strs_one 9 name rfl okn)).mono ?_; rintro x w2 ⟨rfl, hb2⟩; replace hR := (hR.alloc hR.size _).trans (hb2.mono (by first | (simp; done) | (have := hR.size; simp; omega))); obtain ⟨x0, x1, x2, x3, x4, x5, xl⟩ := Hp.out _ hR) | (go_at_call 9; with_reducible refine (HF4.out _ _ _ _ (strs_one 9 src rfl oks)).mono ?_; rintro x w3 ⟨rfl, hb3⟩; replace hR := (hR.alloc hR.size _).trans (hb3.mono (by first | (simp; done) | (have := hR.size; simp; omega))); obtain ⟨x0, x1, x2, x3, x4, x5, xl⟩ := Hp.out _ hR) | (go_at_call 9; with_reducible refine (HF2.out _ hR).mono ?_; rintro x w4 ⟨rfl, hb4⟩; replace hR := hR.trans (hb4.mono hR.size); obtain ⟨x0, x1, x2, x3, x4, x5, xl⟩ := Hp.out _ hR) | (go_at_call 55; with_reducible refine (HF3.out _ hR).mono ?_; rintro x w5 ⟨rfl, hb5⟩; replace hR := hR.trans (hb5.mono hR.size); obtain ⟨x0, x1, x2, x3, x4, x5, xl⟩ := Hp.out _ hR) | (go_at_call 54; with_reducible refine (HW.out _).mono ?_; rintro x w' ⟨rfl, rfl⟩) | (go_at_call 20; with_reducible refine (HF5.out _ hR).mono ?_; rintro x w' ⟨rfl, rfl⟩))
        go_ret
        exact ⟨ret_bool (by rw [Hfin.out]; simp), HB.out _ hR⟩
      cases q6
      · go_wp2_with (first | (go_at_call 9; with_reducible refine (HF1.out _ _ _ _ (strs_one 9 name rfl okn)).mono ?_; rintro x w2 ⟨rfl, hb2⟩; replace hR := (hR.alloc hR.size _).trans (hb2.mono (by first | (simp; done) | (have := hR.size; simp; omega))); obtain ⟨x0, x1, x2, x3, x4, x5, xl⟩ := Hp.out _ hR) | (go_at_call 9; with_reducible refine (HF4.out _ _ _ _ (strs_one 9 src rfl oks)).mono ?_; rintro x w3 ⟨rfl, hb3⟩; replace hR := (hR.alloc hR.size _).trans (hb3.mono (by first | (simp; done) | (have := hR.size; simp; omega))); obtain ⟨x0, x1, x2, x3, x4, x5, xl⟩ := Hp.out _ hR) | (go_at_call 9; with_reducible refine (HF2.out _ hR).mono ?_; rintro x w4 ⟨rfl, hb4⟩; replace hR := hR.trans (hb4.mono hR.size); obtain ⟨x0, x1, x2, x3, x4, x5, xl⟩ := Hp.out _ hR) | (go_at_call 55; with_reducible refine (HF3.out _ hR).mono ?_; rintro x w5 ⟨rfl, hb5⟩; replace hR := hR.trans (hb5.mono hR.size); obtain ⟨x0, x1, x2, x3, x4, x5, xl⟩ := Hp.out _ hR) | (go_at_call 54; with_reducible refine (HW.out _).mono ?_; rintro x w' ⟨rfl, rfl⟩) | (go_at_call 20; with_reducible refine (HF5.out _ hR).mono ?_; rintro x w' ⟨rfl, rfl⟩))
        go_ret
        exact ⟨ret_bool (by rw [Hfin.out]; simp), HB.out _ hR⟩
      cases hsrc : noS src
      · have hsrc' := str_some hsrc
        have Hsrc := Lib.hid hsrc
        clear hsrc
        cases q4
        · go_wp2_with (first | (go_at_call 9; with_reducible refine (HF1.out _ _ _ _ (strs_one 9 name rfl okn)).mono ?_; rintro x w2 ⟨rfl, hb2⟩; replace hR := (hR.alloc hR.size _).trans (hb2.mono (by first | (simp; done) | (have := hR.size; simp; omega))); obtain ⟨x0, x1, x2, x3, x4, x5, xl⟩ := Hp.out _ hR) | (go_at_call 9; with_reducible refine (HF4.out _ _ _ _ (strs_one 9 src rfl oks)).mono ?_; rintro x w3 ⟨rfl, hb3⟩; replace hR := (hR.alloc hR.size _).trans (hb3.mono (by first | (simp; done) | (have := hR.size; simp; omega))); obtain ⟨x0, x1, x2, x3, x4, x5, xl⟩ := Hp.out _ hR) | (go_at_call 9; with_reducible refine (HF2.out _ hR).mono ?_; rintro x w4 ⟨rfl, hb4⟩; replace hR := hR.trans (hb4.mono hR.size); obtain ⟨x0, x1, x2, x3, x4, x5, xl⟩ := Hp.out _ hR) | (go_at_call 55; with_reducible refine (HF3.out _ hR).mono ?_; rintro x w5 ⟨rfl, hb5⟩; replace hR := hR.trans (hb5.mono hR.size); obtain ⟨x0, x1, x2, x3, x4, x5, xl⟩ := Hp.out _ hR) | (go_at_call 54; with_reducible refine (HW.out _).mono ?_; rintro x w' ⟨rfl, rfl⟩) | (go_at_call 20; with_reducible refine (HF5.out _ hR).mono ?_; rintro x w' ⟨rfl, rfl⟩))
          go_ret
          exact ⟨ret_bool (by rw [Hfin.out]; simp [Hsrc.out]), HB.out _ hR⟩
        by_cases hk0 : k = 0
        · have hk0' : ((k : Int) == 0) = true := by simp; omega
          have Hk0 := Lib.hid hk0
          clear hk0
          cases hpt : noS part
          · have hpt' := str_some hpt
            have Hpt := Lib.hid hpt
            clear hpt
            go_wp2_with (first | (go_at_call 9; with_reducible refine (HF1.out _ _ _ _ (strs_one 9 name rfl okn)).mono ?_; rintro x w2 ⟨rfl, hb2⟩; replace hR := (hR.alloc hR.size _).trans (hb2.mono (by first | (simp; done) | (have := hR.size; simp; omega))); obtain ⟨x0, x1, x2, x3, x4, x5, xl⟩ := Hp.out _ hR) | (go_at_call 9; with_reducible refine (HF4.out _ _ _ _ (strs_one 9 src rfl oks)).mono ?_; rintro x w3 ⟨rfl, hb3⟩; replace hR := (hR.alloc hR.size _).trans (hb3.mono (by first | (simp; done) | (have := hR.size; simp; omega))); obtain ⟨x0, x1, x2, x3, x4, x5, xl⟩ := Hp.out _ hR) | (go_at_call 9; with_reducible refine (HF2.out _ hR).mono ?_; rintro x w4 ⟨rfl, hb4⟩; replace hR := hR.trans (hb4.mono hR.size); obtain ⟨x0, x1, x2, x3, x4, x5, xl⟩ := Hp.out _ hR) | (go_at_call 55; with_reducible refine (HF3.out _ hR).mono ?_; rintro x w5 ⟨rfl, hb5⟩; replace hR := hR.trans (hb5.mono hR.size); obtain ⟨x0, x1, x2, x3, x4, x5, xl⟩ := Hp.out _ hR) | (go_at_call 54; with_reducible refine (HW.out _).mono ?_; rintro x w' ⟨rfl, rfl⟩) | (go_at_call 20; with_reducible refine (HF5.out _ hR).mono ?_; rintro x w' ⟨rfl, rfl⟩))
            go_ret
            exact ⟨ret_bool (by rw [Hfin.out]; simp [Hk0.out, Hpt.out, Hsrc.out]), HB.out _ hR⟩
          · have hpt' := str_empty hpt
            have Hpt := Lib.hid hpt
            clear hpt
            go_wp2_with (first | (go_at_call 9; with_reducible refine (HF1.out _ _ _ _ (strs_one 9 name rfl okn)).mono ?_; rintro x w2 ⟨rfl, hb2⟩; replace hR := (hR.alloc hR.size _).trans (hb2.mono (by first | (simp; done) | (have := hR.size; simp; omega))); obtain ⟨x0, x1, x2, x3, x4, x5, xl⟩ := Hp.out _ hR) | (go_at_call 9; with_reducible refine (HF4.out _ _ _ _ (strs_one 9 src rfl oks)).mono ?_; rintro x w3 ⟨rfl, hb3⟩; replace hR := (hR.alloc hR.size _).trans (hb3.mono (by first | (simp; done) | (have := hR.size; simp; omega))); obtain ⟨x0, x1, x2, x3, x4, x5, xl⟩ := Hp.out _ hR) | (go_at_call 9; with_reducible refine (HF2.out _ hR).mono ?_; rintro x w4 ⟨rfl, hb4⟩; replace hR := hR.trans (hb4.mono hR.size); obtain ⟨x0, x1, x2, x3, x4, x5, xl⟩ := Hp.out _ hR) | (go_at_call 55; with_reducible refine (HF3.out _ hR).mono ?_; rintro x w5 ⟨rfl, hb5⟩; replace hR := hR.trans (hb5.mono hR.size); obtain ⟨x0, x1, x2, x3, x4, x5, xl⟩ := Hp.out _ hR) | (go_at_call 54; with_reducible refine (HW.out _).mono ?_; rintro x w' ⟨rfl, rfl⟩) | (go_at_call 20; with_reducible refine (HF5.out _ hR).mono ?_; rintro x w' ⟨rfl, rfl⟩))
            go_ret
            exact ⟨ret_bool (by rw [Hfin.out]; simp [Hk0.out, Hpt.out, Hsrc.out]), HB.out _ hR⟩
        · have hk0' : ((k : Int) == 0) = false := by simp; omega
          have Hk0 := Lib.hid hk0
          clear hk0
          go_wp2_with (first | (go_at_call 9; with_reducible refine (HF1.out _ _ _ _ (strs_one 9 name rfl okn)).mono ?_; rintro x w2 ⟨rfl, hb2⟩; replace hR := (hR.alloc hR.size _).trans (hb2.mono (by first | (simp; done) | (have := hR.size; simp; omega))); obtain ⟨x0, x1, x2, x3, x4, x5, xl⟩ := Hp.out _ hR) | (go_at_call 9; with_reducible refine (HF4.out _ _ _ _ (strs_one 9 src rfl oks)).mono ?_; rintro x w3 ⟨rfl, hb3⟩; replace hR := (hR.alloc hR.size _).trans (hb3.mono (by first | (simp; done) | (have := hR.size; simp; omega))); obtain ⟨x0, x1, x2, x3, x4, x5, xl⟩ := Hp.out _ hR) | (go_at_call 9; with_reducible refine (HF2.out _ hR).mono ?_; rintro x w4 ⟨rfl, hb4⟩; replace hR := hR.trans (hb4.mono hR.size); obtain ⟨x0, x1, x2, x3, x4, x5, xl⟩ := Hp.out _ hR) | (go_at_call 55; with_reducible refine (HF3.out _ hR).mono ?_; rintro x w5 ⟨rfl, hb5⟩; replace hR := hR.trans (hb5.mono hR.size); obtain ⟨x0, x1, x2, x3, x4, x5, xl⟩ := Hp.out _ hR) | (go_at_call 54; with_reducible refine (HW.out _).mono ?_; rintro x w' ⟨rfl, rfl⟩) | (go_at_call 20; with_reducible refine (HF5.out _ hR).mono ?_; rintro x w' ⟨rfl, rfl⟩))
          go_ret
          exact ⟨ret_bool (by rw [Hfin.out]; simp [Hk0.out, Hsrc.out, h8]), HB.out _ hR⟩
      · have hsrc' := str_empty hsrc
        have Hsrc := Lib.hid hsrc
        clear hsrc
        cases hpt : noS part
        · have hpt' := str_some hpt
          have Hpt := Lib.hid hpt
          clear hpt
          go_wp2_with (first | (go_at_call 9; with_reducible refine (HF1.out _ _ _ _ (strs_one 9 name rfl okn)).mono ?_; rintro x w2 ⟨rfl, hb2⟩; replace hR := (hR.alloc hR.size _).trans (hb2.mono (by first | (simp; done) | (have := hR.size; simp; omega))); obtain ⟨x0, x1, x2, x3, x4, x5, xl⟩ := Hp.out _ hR) | (go_at_call 9; with_reducible refine (HF4.out _ _ _ _ (strs_one 9 src rfl oks)).mono ?_; rintro x w3 ⟨rfl, hb3⟩; replace hR := (hR.alloc hR.size _).trans (hb3.mono (by first | (simp; done) | (have := hR.size; simp; omega))); obtain ⟨x0, x1, x2, x3, x4, x5, xl⟩ := Hp.out _ hR) | (go_at_call 9; with_reducible refine (HF2.out _ hR).mono ?_; rintro x w4 ⟨rfl, hb4⟩; replace hR := hR.trans (hb4.mono hR.size); obtain ⟨x0, x1, x2, x3, x4, x5, xl⟩ := Hp.out _ hR) | (go_at_call 55; with_reducible refine (HF3.out _ hR).mono ?_; rintro x w5 ⟨rfl, hb5⟩; replace hR := hR.trans (hb5.mono hR.size); obtain ⟨x0, x1, x2, x3, x4, x5, xl⟩ := Hp.out _ hR) | (go_at_call 54; with_reducible refine (HW.out _).mono ?_; rintro x w' ⟨rfl, rfl⟩) | (go_at_call 20; with_reducible refine (HF5.out _ hR).mono ?_; rintro x w' ⟨rfl, rfl⟩))
          go_ret
          exact ⟨ret_bool (by rw [Hfin.out]; simp [Hpt.out, Hsrc.out, h8]), HB.out _ hR⟩
        · have hpt' := str_empty hpt
          have Hpt := Lib.hid hpt
          clear hpt
          go_wp2_with (first | (go_at_call 9; with_reducible refine (HF1.out _ _ _ _ (strs_one 9 name rfl okn)).mono ?_; rintro x w2 ⟨rfl, hb2⟩; replace hR := (hR.alloc hR.size _).trans (hb2.mono (by first | (simp; done) | (have := hR.size; simp; omega))); obtain ⟨x0, x1, x2, x3, x4, x5, xl⟩ := Hp.out _ hR) | (go_at_call 9; with_reducible refine (HF4.out _ _ _ _ (strs_one 9 src rfl oks)).mono ?_; rintro x w3 ⟨rfl, hb3⟩; replace hR := (hR.alloc hR.size _).trans (hb3.mono (by first | (simp; done) | (have := hR.size; simp; omega))); obtain ⟨x0, x1, x2, x3, x4, x5, xl⟩ := Hp.out _ hR) | (go_at_call 9; with_reducible refine (HF2.out _ hR).mono ?_; rintro x w4 ⟨rfl, hb4⟩; replace hR := hR.trans (hb4.mono hR.size); obtain ⟨x0, x1, x2, x3, x4, x5, xl⟩ := Hp.out _ hR) | (go_at_call 55; with_reducible refine (HF3.out _ hR).mono ?_; rintro x w5 ⟨rfl, hb5⟩; replace hR := hR.trans (hb5.mono hR.size); obtain ⟨x0, x1, x2, x3, x4, x5, xl⟩ := Hp.out _ hR) | (go_at_call 54; with_reducible refine (HW.out _).mono ?_; rintro x w' ⟨rfl, rfl⟩) | (go_at_call 20; with_reducible refine (HF5.out _ hR).mono ?_; rintro x w' ⟨rfl, rfl⟩))
          go_ret
          exact ⟨ret_bool (by rw [Hfin.out]; simp [Hpt.out, Hsrc.out, h8]), HB.out _ hR⟩
end Go.Proofs.Ytgihhkfppnhdpaa

namespace Go.Proofs.Ytgihhkfppnhdpaa
open Go.RowKit Go.Afx

theorem rightB_eq (d : Nat) (p : Pr) : rightB d p = (headsR p.name p.src p.part p.fuel p.params && smallZ (allZ 0 (sizeS d 0) (0, 0) p.body) && p.body.all (builtS d)) := rfl

set_option maxHeartbeats 1000000 in
theorem size_any (F : Nat → Prop) (d : Nat) (p : Pr) (row : List Value) (w : World) (h : PrAt F d w row p) (hd : d ≤ 10000) :
    Calls Try.prog 12 #[.agg row.toArray] w fun x w' => x = .returned (.tuple #[.int .i64 (toldZ (sizeP d p)).1, .int .i64 (toldZ (sizeP d p)).2]) ∧ Below w.heap.size w w' := by
  obtain ⟨_, _, _, _, Ap, np, cp, Ab, nb, cb, rfl, _, hbl⟩ := h
  have hb1 : Below w.heap.size w (w.alloc (.cells #[.string p.name, .string p.src, .string p.part, .int .i64 p.fuel, .slice Ap np cp, .slice Ab nb cb] 34)) := (Below.refl _ _).alloc (Nat.le_refl _) _
  have Ha := Lib.hid (allS_any F d (sizeS_any F d) Ab nb cb p.body 0 _ (hbl.below hb1) (by omega) (by omega))
  have hfin : allZ 0 (sizeS d 0) (0, 0) p.body = sizeP d p := rfl
  rw [hfin] at Ha
  clear hfin
  generalize sizeP d p = s at *
  obtain ⟨s1, s2⟩ := s
  obtain ⟨t, Hto⟩ : ∃ t, Hid (toldZ (s1, s2) = t) := ⟨_, rfl⟩
  rw [Hto.out]
  obtain ⟨t1, t2⟩ := t
  go_enter Try.func12, Try.ntmps12
  go_wp2_with (go_at_call 30; refine Ha.out.mono ?_; rintro x w1 ⟨rfl, hb⟩)
  have hk : IsBlk (w1.alloc (.cells #[.int .i64 s1, .int .i64 s2] 63)) w1.heap.size 63 #[.int .i64 s1, .int .i64 s2] := IsBlk.laid _ _ _
  have hb2 := (hb1.trans (hb.mono hb1.size)).alloc (by have := hb.size; simp at this; omega) (.cells #[.int .i64 s1, .int .i64 s2] 63)
  have ht := told_any _ s1 s2 _ hk
  rw [Hto.out] at ht
  have Ht := Lib.hid ht
  clear hk ht
  go_wp2_with (go_at_call 32; refine Ht.out.mono ?_; rintro x w2 ⟨rfl, hb3⟩)
  go_ret2
  exact ⟨rfl, hb2.trans (hb3.mono (by simp; have := hb.size; simp at this; omega))⟩

set_option maxHeartbeats 2000000 in
theorem right_any (F : Nat → Prop) (d : Nat) (p : Pr) (row : List Value) (w : World) (h : PrAt F d w row p) (hd : d ≤ 10000) (hbig : p.params.length ≤ 1000000) :
    Calls Try.prog 16 #[.agg row.toArray] w fun x w' => x = .returned (.bool (rightB d p)) ∧ Below w.heap.size w w' := by
  obtain ⟨okn, oks, okp, _, Ap, np, cp, Ab, nb, cb, rfl, hpl, hbl⟩ := h
  rw [hpl.len] at hbig
  have hb1 : Below w.heap.size w (w.alloc (.cells #[.string p.name, .string p.src, .string p.part, .int .i64 p.fuel, .slice Ap np cp, .slice Ab nb cb] 34)) := (Below.refl _ _).alloc (Nat.le_refl _) _
  have hx1 : IsBlk (w.alloc (.cells #[.string p.name, .string p.src, .string p.part, .int .i64 p.fuel, .slice Ap np cp, .slice Ab nb cb] 34)) w.heap.size 34 #[.string p.name, .string p.src, .string p.part, .int .i64 p.fuel, .slice Ap np cp, .slice Ab nb cb] := IsBlk.laid _ _ _
  have Hx1 := Lib.hid hx1
  have Ha := Lib.hid (allS_any F d (sizeS_any F d) Ab nb cb p.body 0 _ (hbl.below hb1) (by omega) (by omega))
  have Hh := Lib.hid (fun W (hW : Below w.heap.size w W) => heads_any F p.name p.src p.part p.fuel Ap Ab np cp nb cb p.params W (hpl.below hW) okn oks hbig)
  have Hb := Lib.hid (fun W (hW : Below w.heap.size w W) => blocks_any F d Ab nb cb p.body W (hbl.below hW))
  have hfin := rightB_eq d p
  generalize allZ 0 (sizeS d 0) (0, 0) p.body = s at *
  generalize headsR p.name p.src p.part p.fuel p.params = qh at *
  generalize p.body.all (builtS d) = qb at *
  generalize rightB d p = fin at *
  have Hfin := Lib.hid hfin
  clear hfin hx1
  obtain ⟨s1, s2⟩ := s
  go_enter Try.func16, Try.ntmps16
  go_upto_region 2 with (go_at_call 30; refine Ha.out.mono ?_; rintro x w1 ⟨rfl, hb⟩; have hx2 := Hx1.out.as_was (hb.block _ Hx1.out.lt))
  have hz := hb.size
  simp at hz
  have hk : IsBlk (w1.alloc (.cells #[.int .i64 s1, .int .i64 s2] 63)) w1.heap.size 63 #[.int .i64 s1, .int .i64 s2] := IsBlk.laid _ _ _
  have hx3 := hx2.alloc (.cells #[.int .i64 s1, .int .i64 s2] 63)
  have hb2 := (hb1.trans (hb.mono hb1.size)).alloc (by omega) (.cells #[.int .i64 s1, .int .i64 s2] 63)
  have Hk := Lib.hid hk
  have Hx3 := Lib.hid hx3
  have Hs := Lib.hid (fun W (h : IsBlk W w1.heap.size 63 #[.int .i64 s1, .int .i64 s2]) => small_any _ s1 s2 W h)
  obtain ⟨z0, z1, z2, z3, z4, z5, zl⟩ := prBox hx2
  clear hk hx2 hx3
  generalize smallZ (s1, s2) = qs at *
  cases qh <;> cases qs
  all_goals
    go_wp2_with (first | (go_at_call 36; refine (Hh.out _ hb2).mono ?_; rintro x w3 ⟨rfl, hb3⟩; have hk3 := Hk.out.as_was (hb3.block _ Hk.out.lt); have hx4 := Hx3.out.as_was (hb3.block _ Hx3.out.lt); have hb03 := hb2.trans (hb3.mono hb2.size); obtain ⟨y0, y1, y2, y3, y4, y5, yl⟩ := prBox hx4) | (go_at_call 37; refine (Hs.out _ hk3).mono ?_; rintro x w' ⟨rfl, rfl⟩) | (go_at_call 38; refine (Hb.out _ hb03).mono ?_; rintro x w4 ⟨rfl, hb4⟩))
    go_ret
    first | exact ⟨ret_bool (by rw [Hfin.out]; simp), hb03.trans (hb4.mono hb03.size)⟩ | exact ⟨ret_bool (by rw [Hfin.out]; simp), hb03⟩
end Go.Proofs.Ytgihhkfppnhdpaa

namespace Go.Proofs.Ytgihhkfppnhdpaa
open Go.RowKit Go.Afx Go.Maps Go.WideMaps

def litS (s : ByteArray) : Lit := .string s.data.toList
/-- block b is a set of these names -/
def UseAt (w : World) (b : Nat) (L : List ByteArray) : Prop := w.ownsMap Try.prog 9 (plainElem (H := Unit) Try.prog 4) b L.length (setOf (.lit (.bool true)) (L.map litS))
section
variable {w w' : World} {b : Nat} {L : List ByteArray}
theorem UseAt.lt (h : UseAt w b L) : b < w.heap.size := World.ownsMap.lt h
theorem UseAt.as_was (h : UseAt w b L) (e : w'.heap[b]? = w.heap[b]?) : UseAt w' b L := by
  obtain ⟨es, clock, hb, rest⟩ := h
  exact ⟨es, clock, e.trans hb, rest⟩
theorem UseAt.but {S : Nat → Prop} (h : UseAt w b L) (hb : But S w w') (hn : ¬ S b) : UseAt w' b L := h.as_was (hb.block b h.lt hn)
theorem UseAt.below (h : UseAt w b L) (hb : Below w.heap.size w w') : UseAt w' b L := h.as_was (hb.block b h.lt)
theorem UseAt.made (w : World) : UseAt (w.alloc (.map #[] 0)) w.heap.size [] := World.ownsMap_made w _ _ _
end
theorem strKeyed : Keyed Try.prog 9 := string_keyed Try.underlying9
theorem setOf_put (L : List ByteArray) (s : ByteArray) : (setOf (.lit (.bool true)) (L.map litS) : DataW Unit).put (litS s) (.lit (.bool true)) = setOf (.lit (.bool true)) ((L ++ [s]).map litS) := by
  rw [List.map_append, List.map_singleton, setOf_snoc]
theorem UseAt.put {w' : World} {b : Nat} {L : List ByteArray} {s : ByteArray} (h : w'.ownsMap Try.prog 9 (plainElem (H := Unit) Try.prog 4) b (L.length + 1) ((setOf (.lit (.bool true)) (L.map litS) : DataW Unit).put (litS s) (.lit (.bool true)))) : UseAt w' b (L ++ [s]) := by
  rw [setOf_put] at h
  unfold UseAt
  rw [List.length_append]
  exact h
theorem keyS {s : ByteArray} (h : okS s) : keyOf Try.prog 9 (.string s) = some (litS s) := keyOf_string_mk Try.underlying9 (by unfold okS at h; unfold maxLen; omega)

theorem exBox {w : World} {g : Nat} {T : TypeId} {op n : Int} {s name src : ByteArray} {A : Option Addr} {m c : Nat} (h : IsBlk w g T #[.int .i64 op, .int .i64 n, .string s, .string name, .string src, .slice A m c]) :
    w.cell? ⟨g, 0, none⟩ = some (.int .i64 op) ∧ w.cell? ⟨g, 1, none⟩ = some (.int .i64 n) ∧ w.cell? ⟨g, 2, none⟩ = some (.string s) ∧ w.cell? ⟨g, 3, none⟩ = some (.string name) ∧ w.cell? ⟨g, 4, none⟩ = some (.string src) ∧ w.cell? ⟨g, 5, none⟩ = some (.slice A m c) ∧ g < w.heap.size := by
  have h0 := h.cell 0; have h1 := h.cell 1; have h2 := h.cell 2; have h3 := h.cell 3; have h4 := h.cell 4; have h5 := h.cell 5
  simp at h0 h1 h2 h3 h4 h5
  exact ⟨h0, h1, h2, h3, h4, h5, h.lt⟩
theorem usBox {w : World} {g : Nat} {T : TypeId} {b1 b2 b3 : Nat} (h : IsBlk w g T #[.map (some b1), .map (some b2), .map (some b3)]) :
    w.cell? ⟨g, 0, none⟩ = some (.map (some b1)) ∧ w.cell? ⟨g, 1, none⟩ = some (.map (some b2)) ∧ w.cell? ⟨g, 2, none⟩ = some (.map (some b3)) ∧ g < w.heap.size := by
  have h0 := h.cell 0; have h1 := h.cell 1; have h2 := h.cell 2
  simp at h0 h1 h2
  exact ⟨h0, h1, h2, h.lt⟩

def UsesE (F : Nat → Prop) (d : Nat) : Prop := ∀ (e : Ex) (row : List Value) (w : World) (b1 b2 b3 : Nat) (L : List ByteArray), ExAt F d w row e → UseAt w b1 L → (∀ k, F k → k ≠ b1) → L.length + (srcsE d e).length ≤ 1000000 →
  Calls Try.prog 66 #[.agg #[.map (some b1), .map (some b2), .map (some b3)], .agg row.toArray] w fun x w' => x = .returned (.tuple #[]) ∧ UseAt w' b1 (L ++ srcsE d e) ∧ But (fun k => k = b1) w w'

theorem flat_take {α β : Type} {l : List α} {k : Nat} {x : α} {f : α → List β} (h : l[k]? = some x) : (l.take (k + 1)).flatMap f = (l.take k).flatMap f ++ f x := by
  obtain ⟨hk, rfl⟩ := List.getElem?_eq_some_iff.1 h
  rw [List.take_succ_eq_append_getElem hk, List.flatMap_append]
  simp
theorem flat_le {α β : Type} {l : List α} {k : Nat} {x : α} {f : α → List β} (h : l[k]? = some x) : ((l.take k).flatMap f).length + (f x).length ≤ (l.flatMap f).length := by
  rw [← List.length_append, ← flat_take h]
  have : l.flatMap f = (l.take (k + 1)).flatMap f ++ (l.drop (k + 1)).flatMap f := by rw [← List.flatMap_append, List.take_append_drop]
  rw [this, List.length_append]; omega

set_option maxRecDepth 100000 in
set_option maxHeartbeats 2000000 in
theorem usesE_any (F : Nat → Prop) (d : Nat) : UsesE F d := by
  induction d with
  | zero => intro e row w b1 b2 b3 L h; exact h.elim
  | succ d ih =>
    intro e row w b1 b2 b3 L h hu hF hbig
    obtain ⟨ho, hn, hs, hnm, hsr, A, m, c, rfl, hl⟩ := h.open_
    have hml := LsAt.n_le hl
    have Hlen := Lib.hid (LsAt.len hl)
    have hlt1 := hu.lt
    obtain ⟨w2, Hw2⟩ : ∃ w2, Hid (w2 = (w.alloc (.cells #[.map (some b1), .map (some b2), .map (some b3)] 73)).alloc (.cells #[.int .i64 e.op, .int .i64 e.n, .string e.s, .string e.name, .string e.src, .slice A m c] 50)) := ⟨_, rfl⟩
    have hb2 : Below w.heap.size w w2 := by rw [Hw2.out]; exact ((Below.refl _ _).alloc (Nat.le_refl _) _).alloc (by simp) _
    have hu2 : IsBlk w2 w.heap.size 73 #[.map (some b1), .map (some b2), .map (some b3)] := by rw [Hw2.out]; exact (IsBlk.laid _ _ _).alloc _
    have he2 : IsBlk w2 (w.heap.size + 1) 50 #[.int .i64 e.op, .int .i64 e.n, .string e.s, .string e.name, .string e.src, .slice A m c] := by rw [Hw2.out]; exact laid_at (by simp) _ _
    have hU2 := hu.below hb2
    have Ha := Lib.hid (fun W => args_any e.op W)
    have Hfin : Hid (srcsE (d + 1) e = (if rowsB e.op then [e.src] else []) ++ e.args.flatMap (srcsE d)) := Lib.hid rfl
    obtain ⟨own, Hown⟩ : ∃ l, Hid ((if rowsB e.op then [e.src] else []) = l) := ⟨_, rfl⟩
    rw [Hfin.out, Hown.out] at hbig ⊢
    have hbig2 : L.length + own.length + (e.args.flatMap (srcsE d)).length ≤ 1000000 := by rw [List.length_append] at hbig; omega
    clear hbig
    -- behind the first statement
    have Hx2 := Lib.hid (fun W (hW : But (fun k => k = b1) w2 W) => And.intro (usBox (hu2.as_was (hW.block _ hu2.lt (by omega)))) (exBox (he2.as_was (hW.block _ he2.lt (by omega)))))
    have Hl := Lib.hid (fun W (hW : But (fun k => k = b1) w2 W) => ExsAt.kept hl (Kept.of_but ((But.of_below (S := fun k => k = b1) hb2).trans' hW) (fun k hk => hF k hk)))
    obtain ⟨⟨y0, y1, y2, yl⟩, x0, x1, x2, x3, x4, x5, xl⟩ := Hx2.out w2 (But.refl _ _)
    clear hu2 he2
    have hb02 : But (fun k => k = b1) w w2 := But.of_below hb2
    cases hr : rowsB e.op
    · have hown : own = [] := by rw [← Hown.out, hr]; rfl
      rw [hr] at Ha
      have hU : UseAt w2 b1 (L ++ own) := by rw [hown, List.append_nil]; exact hU2
      have hB : But (fun k => k = b1) w2 w2 := But.refl _ _
      clear hr Hown hown
      go_enter Try.func66, Try.ntmps66
      go_upto_region 1 with (fail)
      rw [← Hw2.out]
      go_wp2_with (go_at_call 86; refine (Ha.out _).mono ?_; rintro x w' ⟨rfl, rfl⟩)
      go_loopw [22] (fun i wr => ∃ k : Nat, k ≤ m ∧ i = .int .i64 k ∧ UseAt wr b1 (L ++ own ++ (e.args.take k).flatMap (srcsE d)) ∧ But (fun k => k = b1) w2 wr) (fun i _ => m - (intOf i).toNat)
      case atStart => exact ⟨0, Nat.zero_le _, rfl, by simpa using hU, hB⟩
      case round =>
        obtain ⟨k, hk, rfl, hU4, hB4⟩ := hrel
        obtain ⟨⟨z0, z1, z2, zl⟩, v0, v1, v2, v3, v4, v5, vl⟩ := Hx2.out wr hB4
        by_cases hlt : k < m
        · cases d with
          | zero =>
            obtain ⟨b, o, r, e, hA, hbl, _, he, hl, hp, hc⟩ := LsAt.get (Hl.out wr hB4) hlt
            exact hp.elim
          | succ d =>
            obtain ⟨b, o, x, A2, m2, c2, rfl, hbl, hx, hc0, hc1, hc2, hc3, hc4, hc5, hp, _⟩ := ExsAt.get (Hl.out wr hB4) hlt
            have Hx := Lib.hid hx
            clear hx
            have hbn : Below wr.heap.size wr (wr.alloc (.cells #[.int .i64 x.op, .int .i64 x.n, .string x.s, .string x.name, .string x.src, .slice A2 m2 c2] 50)) := (Below.refl _ _).alloc (Nat.le_refl _) _
            have Hc := Lib.hid (ih x _ _ b1 b2 b3 _ (hp.below hbn) (hU4.below hbn) hF (by have := flat_le (f := srcsE (d + 1)) Hx.out; simp only [List.length_append]; omega))
            go_wp2_with (go_at_call 66; refine Hc.out.mono ?_; rintro y w5 ⟨rfl, hU5, hB5⟩)
            go_roundw
            case rel => exact ⟨k + 1, by omega, by go_num, by rw [flat_take Hx.out, ← List.append_assoc]; exact hU5, (hB4.then_below hbn).trans' hB5⟩
            case measure => simp [intOf]; omega
        · go_wp2
          go_end0
          refine ⟨rfl, ?_, hb02.trans' hB4⟩
          rw [List.take_of_length_le (by rw [Hlen.out]; omega)] at hU4
          rw [← List.append_assoc]
          exact hU4
    · have hown : own = [e.src] := by rw [← Hown.out, hr]; rfl
      rw [hr] at Ha
      have Ho := Lib.hid hown
      clear hr Hown hown
      go_enter Try.func66, Try.ntmps66
      go_upto_region 1 with (fail)
      rw [← Hw2.out]
      go_wp2_with (first | (go_at_call 86; refine (Ha.out _).mono ?_; rintro x w' ⟨rfl, rfl⟩) | (at_mapUpdate; refine wpList_mapUpdate_own _ rfl _ _ _ 71 rfl 9 4 strKeyed Try.underlying71 _ b1 L.length _ rfl hU2 (by unfold maxLen; omega) _ _ _ rfl rfl (keyS hsr) _ [] (plainElem_bool Try.underlying4 true) ?_; intro w3 hU3 hgrow3; have hB : But (fun k => k = b1) w2 w3 := But.grown (But.refl _ _) hgrow3 (fun k hk => by cases hk; exact .inl rfl); obtain ⟨⟨a0, a1, a2, al⟩, c0, c1, c2, c3, c4, c5, cl⟩ := Hx2.out w3 hB))
      have hU : UseAt w3 b1 (L ++ own) := by rw [Ho.out]; exact UseAt.put hU3
      go_loopw [22] (fun i wr => ∃ k : Nat, k ≤ m ∧ i = .int .i64 k ∧ UseAt wr b1 (L ++ own ++ (e.args.take k).flatMap (srcsE d)) ∧ But (fun k => k = b1) w2 wr) (fun i _ => m - (intOf i).toNat)
      case atStart => exact ⟨0, Nat.zero_le _, rfl, by simpa using hU, hB⟩
      case round =>
        obtain ⟨k, hk, rfl, hU4, hB4⟩ := hrel
        obtain ⟨⟨z0, z1, z2, zl⟩, v0, v1, v2, v3, v4, v5, vl⟩ := Hx2.out wr hB4
        by_cases hlt : k < m
        · cases d with
          | zero =>
            obtain ⟨b, o, r, e, hA, hbl, _, he, hl, hp, hc⟩ := LsAt.get (Hl.out wr hB4) hlt
            exact hp.elim
          | succ d =>
            obtain ⟨b, o, x, A2, m2, c2, rfl, hbl, hx, hc0, hc1, hc2, hc3, hc4, hc5, hp, _⟩ := ExsAt.get (Hl.out wr hB4) hlt
            have Hx := Lib.hid hx
            clear hx
            have hbn : Below wr.heap.size wr (wr.alloc (.cells #[.int .i64 x.op, .int .i64 x.n, .string x.s, .string x.name, .string x.src, .slice A2 m2 c2] 50)) := (Below.refl _ _).alloc (Nat.le_refl _) _
            have Hc := Lib.hid (ih x _ _ b1 b2 b3 _ (hp.below hbn) (hU4.below hbn) hF (by have := flat_le (f := srcsE (d + 1)) Hx.out; simp only [List.length_append]; omega))
            go_wp2_with (go_at_call 66; refine Hc.out.mono ?_; rintro y w5 ⟨rfl, hU5, hB5⟩)
            go_roundw
            case rel => exact ⟨k + 1, by omega, by go_num, by rw [flat_take Hx.out, ← List.append_assoc]; exact hU5, (hB4.then_below hbn).trans' hB5⟩
            case measure => simp [intOf]; omega
        · go_wp2
          go_end0
          refine ⟨rfl, ?_, hb02.trans' hB4⟩
          rw [List.take_of_length_le (by rw [Hlen.out]; omega)] at hU4
          rw [← List.append_assoc]
          exact hU4
end Go.Proofs.Ytgihhkfppnhdpaa

namespace Go.Afx
open Go.RowKit

def cntE : Nat → Ex → Nat
  | 0, _ => 0
  | d + 1, e => 1 + (e.args.map (cntE d)).sum
def cntS : Nat → St → Nat
  | 0, _ => 0
  | d + 1, x => 1 + (x.exprs.map (cntE d)).sum + (x.body.map (cntS d)).sum + (x.els.map (cntS d)).sum

theorem sum_map_le {α : Type} {f g : α → Nat} (h : ∀ x, f x ≤ g x) : ∀ l : List α, (l.map f).sum ≤ (l.map g).sum := by
  intro l
  induction l with
  | nil => simp
  | cons a r ih => have := h a; simp only [List.map_cons, List.sum_cons]; omega
theorem flat_cnt {α β : Type} {f : α → List β} {g : α → Nat} (h : ∀ x, (f x).length ≤ g x) (l : List α) : (l.flatMap f).length ≤ (l.map g).sum := by
  rw [List.length_flatMap]
  exact sum_map_le h l
theorem sum_take {α : Type} {f : α → Nat} {l : List α} {k : Nat} {x : α} (h : l[k]? = some x) : ((l.take k).map f).sum + f x ≤ (l.map f).sum := by
  obtain ⟨hk, rfl⟩ := List.getElem?_eq_some_iff.1 h
  have e : l = l.take k ++ l[k] :: l.drop (k + 1) := by rw [← List.drop_eq_getElem_cons hk, List.take_append_drop]
  conv => rhs; rw [e]
  simp only [List.map_append, List.sum_append, List.map_cons, List.sum_cons]
  omega

theorem srcsE_le (d : Nat) : ∀ e, (srcsE d e).length ≤ cntE d e := by
  induction d with
  | zero => intro e; simp [srcsE]
  | succ d ih =>
    intro e
    have := flat_cnt ih e.args
    rw [srcsE, cntE, List.length_append]
    split <;> simp only [List.length_cons, List.length_nil] <;> omega
theorem readsS_le (d : Nat) : ∀ x, (readsS d x).length ≤ cntS d x := by
  induction d with
  | zero => intro x; simp [readsS]
  | succ d ih =>
    intro x
    have h1 := flat_cnt (srcsE_le d) x.exprs
    have h2 := flat_cnt ih x.body
    have h3 := flat_cnt ih x.els
    rw [readsS, cntS, List.length_append, List.length_append, List.length_append]
    split <;> simp only [List.length_cons, List.length_nil] <;> omega
theorem writesS_le (d : Nat) : ∀ x, (writesS d x).length ≤ cntS d x := by
  induction d with
  | zero => intro x; simp [writesS]
  | succ d ih =>
    intro x
    have h2 := flat_cnt ih x.body
    have h3 := flat_cnt ih x.els
    rw [writesS, cntS, List.length_append, List.length_append]
    split <;> simp only [List.length_cons, List.length_nil] <;> omega
theorem emitsS_le (d : Nat) : ∀ x, (emitsS d x).length ≤ cntS d x := by
  induction d with
  | zero => intro x; simp [emitsS]
  | succ d ih =>
    intro x
    have h2 := flat_cnt ih x.body
    have h3 := flat_cnt ih x.els
    rw [emitsS, cntS, List.length_append, List.length_append]
    split <;> simp only [List.length_cons, List.length_nil] <;> omega
theorem len_cnt (d : Nat) (l : List St) : l.length ≤ (l.map (cntS (d + 1))).sum := by
  induction l with
  | nil => simp
  | cons a r ih =>
    have : 1 ≤ cntS (d + 1) a := by rw [cntS]; omega
    simp only [List.map_cons, List.sum_cons, List.length_cons]
    omega
theorem sts_cnt {F : Nat → Prop} {d : Nat} {w : World} {A : Option Addr} {n c : Nat} {l : List St} (h : StsAt F d w A n c l) : n ≤ (l.map (cntS d)).sum := by
  cases d with
  | zero =>
    rcases Nat.eq_zero_or_pos n with h0 | h0
    · omega
    · obtain ⟨b, o, r, x, _, _, _, _, _, hp, _⟩ := LsAt.get h h0
      exact hp.elim
  | succ d => rw [← LsAt.len h]; exact len_cnt d l
end Go.Afx

namespace Go.Proofs.Ytgihhkfppnhdpaa
open Go.RowKit Go.Afx Go.Maps Go.WideMaps

theorem tySt : ElemTy Try.prog 32 52 8 144 (.agg #[.int .i64 0, .string ByteArray.empty, .string ByteArray.empty, .int .i64 0, .slice none 0 0, .slice none 0 0, .slice none 0 0, .slice none 0 0]) := ⟨Try.underlying32, by kernel_rfl, rfl, by decide⟩

/-- 'append' as one step of a region that draws -/
theorem step_app {P : Program} {w : World} {ops : Array Oper} {o : Oper} {a : Act} {K : Act → World → Prop} {Q : Exit → Act → World → Prop} {E : Prop} (hgd : o.guard = none) {s x : Operand} {t : TypeId}
    (ho : o.op = .call { callee := .builtin .append, args := #[s, x], argTypes := #[t, t] })
    {base : Nat} {e : TypeId} {sz bytes : Nat} {z : Value} (hT : ElemTy P t e sz bytes z)
    {A : Option Addr} {n c : Nat} {xs : List (List Value)} (hs : a.eval s = .slice A n c) (hown : w.ownsRow base e sz (.slice A n c) n xs.flatten)
    {A' : Option Addr} {m c' : Nat} {news : List (List Value)} (hx : a.eval x = .slice A' m c') (hnews : RowsAt w sz A' m c' news) (hlen : ∀ r ∈ news, r.length = sz) (h1 : ∀ r ∈ news, ∀ u ∈ r, u.oneCell' = true)
    (h63 : n + m ≤ maxLen) (hbytes : (n + m) * bytes ≤ 140737488355328) (hbase : base ≤ w.heap.size)
    (h : ∀ A2 c2 w', w'.ownsRow base e sz (.slice A2 (n + m) c2) (n + m) (xs ++ news).flatten → But (fun k => A.map (·.block) = some k) w w' → (∀ a2, A2 = some a2 → A = some a2 ∨ w.heap.size ≤ a2.block) → K (a.put o.dst (.slice A2 (n + m) c2)) w') :
    if Region.wanted o (yielded ops a.tmps) = true then Oper.wp P o a w K Q else E := by
  have hw : Region.wanted o (yielded ops a.tmps) = true := by simp [Region.wanted, hgd]
  rw [if_pos hw]
  obtain ⟨A2, c2, w', hr, hown', hb, hf⟩ := run_app (P := P) o.type hT hown hnews hlen h1 h63 hbytes hbase
  unfold Oper.wp execOp
  simp only [ho, resolve, invoke, builtin, Sem.run_bind, Sem.run_pure, Result.andThen_ok, List.map_toArray, List.map_cons, List.map_nil, hs, hx, hr]
  exact h A2 c2 w' hown' hb hf

theorem RowsAt.drew {w : World} {sz : Nat} {A : Option Addr} {n c : Nat} {xs : List (List Value)} (h : RowsAt w sz A n c xs) : RowsAt w.drew sz A n c xs := ⟨h.len, h.cap, h.max, h.at_⟩

/-- 'm[k] = v' as one step of a region that draws -/
theorem step_upd {H : Type} {P : Program} {w : World} {ops : Array Oper} {o : Oper} {a : Act} {K : Act → World → Prop} {Q : Exit → Act → World → Prop} {E : Prop} (hgd : o.guard = none) (m x v : Operand) (t : TypeId) (hop : o.op = .mapUpdate t m x v)
    (k e : TypeId) (Kd : Keyed P k) (ht : P.underlying t = some (.map k e)) (R : Value → Option (DataW H × List MemPlace)) (b n : Nat) (D : DataW H)
    (hm : a.eval m = .map (some b)) (hown : w.ownsMap P k R b n D) (hn : n < maxLen) (key val : Value) (kl : Lit) (hx : a.eval x = key) (hv : a.eval v = val) (hkey : keyOf P k key = some kl)
    (d : DataW H) (ps : List MemPlace) (hval : R val = some (d, ps))
    (h : ∀ w', w'.ownsMap P k R b (n + 1) (D.put kl d) → w.grownBy w' (some b) → K (a.put o.dst undef) w') :
    if Region.wanted o (yielded ops a.tmps) = true then Oper.wp P o a w K Q else E := by
  have hw : Region.wanted o (yielded ops a.tmps) = true := by simp [Region.wanted, hgd]
  rw [if_pos hw]
  obtain ⟨w', hrun, r1, r2⟩ := hown.update Kd ht hn hkey hval
  unfold Oper.wp
  simp [execOp, hop, hm, hx, hv, hrun, Result.andThen]
  exact h w' r1 r2

theorem ls_rows {F : Nat → Prop} {w : World} {d : Nat} {A : Option Addr} {n c : Nat} {xs : List St} (h : StsAt F d w A n c xs) :
    ∃ rows, RowsAt w 8 A n c rows ∧ (∀ r ∈ rows, r.length = 8) ∧ (∀ r ∈ rows, ∀ u ∈ r, u.oneCell' = true) ∧ rows.length = xs.length ∧ ∀ (k : Nat) (r : List Value) (x : St), rows[k]? = some r → xs[k]? = some x → r.length = 8 ∧ StAt F d w r x := by
  obtain ⟨rows, hr, _, hl, hp⟩ := h
  have hx : ∀ r ∈ rows, ∃ x, StAt F d w r x := by
    intro r hr
    obtain ⟨k, hk⟩ := List.mem_iff_getElem?.1 hr
    have hlt := (List.getElem?_eq_some_iff.1 hk).1
    exact ⟨_, (hp k r (xs[k]'(by omega)) hk (List.getElem?_eq_getElem _)).2⟩
  exact ⟨rows, hr, fun r h => by obtain ⟨x, hx⟩ := hx r h; exact hx.len, fun r h => by obtain ⟨x, hx⟩ := hx r h; exact hx.one, hl, hp⟩

set_option maxRecDepth 100000 in
theorem cloneSt_any (A : Option Addr) (n c : Nat) (rows : List (List Value)) (hn : n ≤ 1000000) (w : World) (hW : RowsAt w 8 A n c rows) (h8 : ∀ r ∈ rows, r.length = 8) (h1 : ∀ r ∈ rows, ∀ u ∈ r, u.oneCell' = true) :
    Calls Try.prog 67 #[.slice A n c] w fun e w' => ∃ A2 c2, e = .returned (.slice A2 n c2) ∧ w'.ownsRow w.heap.size 52 8 (.slice A2 n c2) n rows.flatten ∧ Below w.heap.size w w' := by
  have hl : rows.length = n := hW.len
  have q22 : ∀ (w : World) (a : Option Addr) (n c n' c' : Nat), (binOp .eql 32 (.slice a n c) (.slice none n' c')).run Try.prog w = .ok (.bool a.isNone) w := fun w a n c n' c' => Lib.run_eql_slice_nil w _ _ a n c n' c' Try.underlying32
  cases A with
  | none =>
    have h0 : rows = [] := by
      cases rows with
      | nil => rfl
      | cons a r =>
        obtain ⟨b, o, e, _⟩ := hW.at_ 0 a rfl
        cases e
    subst h0
    obtain rfl : n = 0 := by simpa using hl.symm
    go_enter Try.func67, Try.ntmps67
    go_wp2
    go_ret
    exact ⟨none, 0, rfl, World.ownsRow_nil _ _ _ _, Below.refl _ _⟩
  | some a =>
    have hW2 : RowsAt (w.alloc (.cells #[] 52)) 8 (some a) n c rows := hW.below ((Below.refl _ _).alloc (Nat.le_refl _) _)
    have hown : (w.alloc (.cells #[] 52)).ownsRow w.heap.size 52 8 (.slice (some ⟨w.heap.size, 0, none⟩) 0 0) 0 ([] : List (List Value)).flatten := World.ownsRow_made w #[] 0 (Nat.le_refl _) (Nat.zero_le _) (by simp)
    go_enter Try.func67, Try.ntmps67
    go_wp2_with (at_builtin; refine wpList_app rfl rfl tySt rfl hown rfl hW2 h8 h1 ?_ ?_ ?_ ?_; (unfold maxLen; omega); omega; (simp); intro A3 c3 w3 hown3 hbut3 hf3)
    go_ret
    refine ⟨A3, c3, by simp, ?_, ?_⟩
    · simpa using hown3
    · refine ((Below.refl _ _).alloc (Nat.le_refl _) _).trans (hbut3.below' (by simp) (fun i hi => ?_))
      simp at hi; omega
end Go.Proofs.Ytgihhkfppnhdpaa

namespace Go.Proofs.Ytgihhkfppnhdpaa
open Go.RowKit Go.Afx Go.Maps Go.WideMaps

def NB (b1 b2 b3 : Nat) : Nat → Prop := fun k => k ≠ b1 ∧ k ≠ b2 ∧ k ≠ b3
def S3 (b1 b2 b3 : Nat) : Nat → Prop := fun k => k = b1 ∨ k = b2 ∨ k = b3
theorem nb_kept {b1 b2 b3 : Nat} {w w' : World} (h : But (S3 b1 b2 b3) w w') : Kept (NB b1 b2 b3) w w' := Kept.of_but h fun k hk hs => by
  obtain ⟨h1, h2, h3⟩ := hk
  rcases hs with rfl | rfl | rfl
  · exact h1 rfl
  · exact h2 rfl
  · exact h3 rfl
/-- the three sets -/
structure Sets (w : World) (b1 b2 b3 : Nat) (L1 L2 L3 : List ByteArray) : Prop where
  one : UseAt w b1 L1
  two : UseAt w b2 L2
  three : UseAt w b3 L3
  n12 : b1 ≠ b2
  n13 : b1 ≠ b3
  n23 : b2 ≠ b3
section
variable {w w' : World} {b1 b2 b3 : Nat} {L1 L2 L3 : List ByteArray}
theorem Sets.below (h : Sets w b1 b2 b3 L1 L2 L3) (hb : Below w.heap.size w w') : Sets w' b1 b2 b3 L1 L2 L3 := ⟨h.one.below hb, h.two.below hb, h.three.below hb, h.n12, h.n13, h.n23⟩
theorem Sets.first {L : List ByteArray} (h : Sets w b1 b2 b3 L1 L2 L3) (hu : UseAt w' b1 L) (hb : But (fun k => k = b1) w w') : Sets w' b1 b2 b3 L L2 L3 := ⟨hu, h.two.but hb h.n12.symm, h.three.but hb h.n13.symm, h.n12, h.n13, h.n23⟩
theorem Sets.second {L : List ByteArray} (h : Sets w b1 b2 b3 L1 L2 L3) (hu : UseAt w' b2 L) (hb : But (fun k => k = b2) w w') : Sets w' b1 b2 b3 L1 L L3 := ⟨h.one.but hb h.n12, hu, h.three.but hb h.n23.symm, h.n12, h.n13, h.n23⟩
theorem Sets.third {L : List ByteArray} (h : Sets w b1 b2 b3 L1 L2 L3) (hu : UseAt w' b3 L) (hb : But (fun k => k = b3) w w') : Sets w' b1 b2 b3 L1 L2 L := ⟨h.one.but hb h.n13, h.two.but hb h.n23, hu, h.n12, h.n13, h.n23⟩
theorem but_s1 (hb : But (fun k => k = b1) w w') : But (S3 b1 b2 b3) w w' := hb.mono fun _ h => .inl (.inl h)
theorem but_s2 (hb : But (fun k => k = b2) w w') : But (S3 b1 b2 b3) w w' := hb.mono fun _ h => .inl (.inr (.inl h))
theorem but_s3 (hb : But (fun k => k = b3) w w') : But (S3 b1 b2 b3) w w' := hb.mono fun _ h => .inl (.inr (.inr h))
theorem grown_but {b : Nat} (h : w.grownBy w' (some b)) : But (fun k => k = b) w w' := But.grown (But.refl _ _) h (fun k hk => by cases hk; exact .inl rfl)
end

def UsesS (d : Nat) : Prop := ∀ (b1 b2 b3 : Nat) (x : St) (row : List Value) (w : World) (L1 L2 L3 : List ByteArray), StAt (NB b1 b2 b3) d w row x → Sets w b1 b2 b3 L1 L2 L3 →
  L1.length + cntS d x ≤ 1000000 → L2.length + cntS d x ≤ 1000000 → L3.length + cntS d x ≤ 1000000 →
  Calls Try.prog 53 #[.agg #[.map (some b1), .map (some b2), .map (some b3)], .agg row.toArray] w fun r w' => r = .returned (.tuple #[]) ∧ Sets w' b1 b2 b3 (L1 ++ readsS d x) (L2 ++ writesS d x) (L3 ++ emitsS d x) ∧ But (S3 b1 b2 b3) w w'

theorem stBox0 {w : World} {g : Nat} {T : TypeId} {op n : Int} {name src : ByteArray} {Ac Ae Ab Al : Option Addr} {nc cc ne ce nb cb nl cl : Nat} (h : IsBlk w g T #[.int .i64 op, .string name, .string src, .int .i64 n, .slice Ac nc cc, .slice Ae ne ce, .slice Ab nb cb, .slice Al nl cl]) :
    w.cell? ⟨g, 0, none⟩ = some (.int .i64 op) ∧ w.cell? ⟨g, 2, none⟩ = some (.string src) ∧ w.cell? ⟨g, 5, none⟩ = some (.slice Ae ne ce) ∧ w.cell? ⟨g, 6, none⟩ = some (.slice Ab nb cb) ∧ w.cell? ⟨g, 7, none⟩ = some (.slice Al nl cl) ∧ g < w.heap.size := by
  have h0 := h.cell 0; have h2 := h.cell 2; have h5 := h.cell 5; have h6 := h.cell 6; have h7 := h.cell 7
  simp at h0 h2 h5 h6 h7
  exact ⟨h0, h2, h5, h6, h7, h.lt⟩

/-- where body and else are one list -/
def Joined (b1 b2 b3 : Nat) (d : Nat) (ys : List St) (n : Nat) (Q : World → Prop) (s55 s56 s57 : Value) (W : World) : Prop :=
  ∃ A c, s55 = .slice A n c ∧ s56 = .int .i64 n ∧ s57 = .int .i64 0 ∧ StsAt (NB b1 b2 b3) d W A n c ys ∧ Q W

theorem joined_ls {b1 b2 b3 : Nat} {d : Nat} {W w6 : World} {T : TypeId} {A : Option Addr} {n c m : Nat} {rB rL : List (List Value)} {body els : List St} (hS : ∀ k, S3 b1 b2 b3 k → k < W.heap.size)
    (hown : w6.ownsRow W.heap.size T 8 (.slice A (n + m) c) (n + m) (rB ++ rL).flatten) (h8B : ∀ r ∈ rB, r.length = 8) (h8L : ∀ r ∈ rL, r.length = 8) (hlB : rB.length = n) (hlL : rL.length = m)
    (hb : rB.length = body.length) (hl : rL.length = els.length)
    (hpB : ∀ (k : Nat) (r : List Value) (x : St), rB[k]? = some r → body[k]? = some x → r.length = 8 ∧ StAt (NB b1 b2 b3) d W r x)
    (hpL : ∀ (k : Nat) (r : List Value) (x : St), rL[k]? = some r → els[k]? = some x → r.length = 8 ∧ StAt (NB b1 b2 b3) d W r x)
    (hW : But (S3 b1 b2 b3) W w6) : StsAt (NB b1 b2 b3) d w6 A (n + m) c (body ++ els) := by
  refine ⟨rB ++ rL, RowsAt.of_own hown (fun r h => by rcases List.mem_append.1 h with h | h <;> first | exact h8B r h | exact h8L r h) (by simp; omega), fun a ha h0 => ?_, by simp; omega, fun k r x hr hx => ?_⟩
  · subst ha
    have h := (hown.lt a.block rfl).1
    refine ⟨fun e => ?_, fun e => ?_, fun e => ?_⟩
    · have := hS _ (.inl e); omega
    · have := hS _ (.inr (.inl e)); omega
    · have := hS _ (.inr (.inr e)); omega
  · by_cases hk : k < rB.length
    · rw [List.getElem?_append_left hk] at hr
      rw [List.getElem?_append_left (by omega)] at hx
      obtain ⟨h1, h2⟩ := hpB k r x hr hx
      exact ⟨h1, h2.kept (nb_kept hW)⟩
    · rw [List.getElem?_append_right (by omega)] at hr
      rw [List.getElem?_append_right (by omega), ← hb] at hx
      obtain ⟨h1, h2⟩ := hpL _ r x hr hx
      exact ⟨h1, h2.kept (nb_kept hW)⟩
end Go.Proofs.Ytgihhkfppnhdpaa
