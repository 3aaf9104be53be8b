/- Parts of this proof, one behind the other: SynT0, SynT, SynU, SynV, SynW, SynY, SynZ, SynZ1, RefP, RefX. -/
import Derived.Test.YtmgldjpdhpopnaaGreatDoorPp8
import Derived.Deep.CutRange
import Derived.Test.YtmgldjpdhpopnaaGreatDoorPp3
import Derived.Maps.OwnSet
import Derived.Test.YtmgldjpdhpopnaaGreatDoorPp4
set_option maxRecDepth 1000000
set_option maxHeartbeats 40000000
namespace Go.Proofs.YtmgldjpdhpopnaaGreatDoor
open Go.RowKit Go.Afx Go.Maps Go.WideMaps
def NB (b1 b2 b3 : Nat) : Nat → Prop := fun k => k ≠ b1 ∧ k ≠ b2 ∧ k ≠ b3
def S3 (b1 b2 b3 : Nat) : Nat → Prop := fun k => k = b1 ∨ k = b2 ∨ k = b3
theorem nb_kept {b1 b2 b3 : Nat} {w w' : World} (h : But (S3 b1 b2 b3) w w') : Kept (NB b1 b2 b3) w w' := Kept.of_but h fun k hk hs => by
 obtain ⟨h1, h2, h3⟩ := hk
 rcases hs with rfl | rfl | rfl
 ·exact h1 rfl
 ·exact h2 rfl
 ·exact h3 rfl
structure Sets (w : World) (b1 b2 b3 : Nat) (L1 L2 L3 : List ByteArray) : Prop where
 one : UseAt w b1 L1
 two : UseAt w b2 L2
 three : UseAt w b3 L3
 n12 : b1 ≠ b2
 n13 : b1 ≠ b3
 n23 : b2 ≠ b3
section
variable {w w' : World} {b1 b2 b3 : Nat} {L1 L2 L3 : List ByteArray}
theorem Sets.below (h : Sets w b1 b2 b3 L1 L2 L3) (hb : Below w.heap.size w w') : Sets w' b1 b2 b3 L1 L2 L3 := ⟨h.one.below hb, h.two.below hb, h.three.below hb, h.n12, h.n13, h.n23⟩
theorem Sets.first {L : List ByteArray} (h : Sets w b1 b2 b3 L1 L2 L3) (hu : UseAt w' b1 L) (hb : But (fun k => k = b1) w w') : Sets w' b1 b2 b3 L L2 L3 := ⟨hu, h.two.but hb h.n12.symm, h.three.but hb h.n13.symm, h.n12, h.n13, h.n23⟩
theorem Sets.second {L : List ByteArray} (h : Sets w b1 b2 b3 L1 L2 L3) (hu : UseAt w' b2 L) (hb : But (fun k => k = b2) w w') : Sets w' b1 b2 b3 L1 L L3 := ⟨h.one.but hb h.n12, hu, h.three.but hb h.n23.symm, h.n12, h.n13, h.n23⟩
theorem Sets.third {L : List ByteArray} (h : Sets w b1 b2 b3 L1 L2 L3) (hu : UseAt w' b3 L) (hb : But (fun k => k = b3) w w') : Sets w' b1 b2 b3 L1 L2 L := ⟨h.one.but hb h.n13, h.two.but hb h.n23, hu, h.n12, h.n13, h.n23⟩
theorem but_s1 (hb : But (fun k => k = b1) w w') : But (S3 b1 b2 b3) w w' := hb.mono fun _ h => .inl (.inl h)
theorem but_s2 (hb : But (fun k => k = b2) w w') : But (S3 b1 b2 b3) w w' := hb.mono fun _ h => .inl (.inr (.inl h))
theorem but_s3 (hb : But (fun k => k = b3) w w') : But (S3 b1 b2 b3) w w' := hb.mono fun _ h => .inl (.inr (.inr h))
theorem grown_but {b : Nat} (h : w.grownBy w' (some b)) : But (fun k => k = b) w w' := But.grown (But.refl _ _) h (fun k hk => by cases hk; exact .inl rfl)
end
theorem stBox0 {w : World} {g : Nat} {T : TypeId} {op n : Int} {name src : ByteArray} {Ac Ae Ab Al : Option Addr} {nc cc ne ce nb cb nl cl : Nat} (h : IsBlk w g T #[.int .i64 op, .string name, .string src, .int .i64 n, .slice Ac nc cc, .slice Ae ne ce, .slice Ab nb cb, .slice Al nl cl]) :
  w.cell? ⟨g, 0, none⟩ = some (.int .i64 op) ∧ w.cell? ⟨g, 2, none⟩ = some (.string src) ∧ w.cell? ⟨g, 5, none⟩ = some (.slice Ae ne ce) ∧ w.cell? ⟨g, 6, none⟩ = some (.slice Ab nb cb) ∧ w.cell? ⟨g, 7, none⟩ = some (.slice Al nl cl) ∧ g < w.heap.size := by
 have h0 := h.cell 0; have h2 := h.cell 2; have h5 := h.cell 5; have h6 := h.cell 6; have h7 := h.cell 7
 simp at h0 h2 h5 h6 h7
 exact ⟨h0, h2, h5, h6, h7, h.lt⟩
def Joined (b1 b2 b3 : Nat) (d : Nat) (ys : List St) (n : Nat) (Q : World → Prop) (s55 s56 s57 : Value) (W : World) : Prop :=
 ∃ A c, s55 = .slice A n c ∧ s56 = .int .i64 n ∧ s57 = .int .i64 0 ∧ StsAt (NB b1 b2 b3) d W A n c ys ∧ Q W
theorem joined_ls {b1 b2 b3 : Nat} {d : Nat} {W w6 : World} {T : TypeId} {A : Option Addr} {n c m : Nat} {rB rL : List (List Value)} {body els : List St} (hS : ∀ k, S3 b1 b2 b3 k → k < W.heap.size)
  (hown : w6.ownsRow W.heap.size T 8 (.slice A (n + m) c) (n + m) (rB ++ rL).flatten) (h8B : ∀ r ∈ rB, r.length = 8) (h8L : ∀ r ∈ rL, r.length = 8) (hlB : rB.length = n) (hlL : rL.length = m)
  (hb : rB.length = body.length) (hl : rL.length = els.length)
  (hpB : ∀ (k : Nat) (r : List Value) (x : St), rB[k]? = some r → body[k]? = some x → r.length = 8 ∧ StAt (NB b1 b2 b3) d W r x)
  (hpL : ∀ (k : Nat) (r : List Value) (x : St), rL[k]? = some r → els[k]? = some x → r.length = 8 ∧ StAt (NB b1 b2 b3) d W r x)
  (hW : But (S3 b1 b2 b3) W w6) : StsAt (NB b1 b2 b3) d w6 A (n + m) c (body ++ els) := by
 refine ⟨rB ++ rL, RowsAt.of_own hown (fun r h => by rcases List.mem_append.1 h with h | h <;> first | exact h8B r h | exact h8L r h) (by simp; omega), fun a ha h0 => ?_, by simp; omega, fun k r x hr hx => ?_⟩
 ·subst ha
  have h := (hown.lt a.block rfl).1
  refine ⟨fun e => ?_, fun e => ?_, fun e => ?_⟩
  ·have := hS _ (.inl e); omega
  ·have := hS _ (.inr (.inl e)); omega
  ·have := hS _ (.inr (.inr e)); omega
 ·by_cases hk : k < rB.length
  ·rw [List.getElem?_append_left hk] at hr
   rw [List.getElem?_append_left (by omega)] at hx
   obtain ⟨h1, h2⟩ := hpB k r x hr hx
   exact ⟨h1, h2.kept (nb_kept hW)⟩
  ·rw [List.getElem?_append_right (by omega)] at hr
   rw [List.getElem?_append_right (by omega), ← hb] at hx
   obtain ⟨h1, h2⟩ := hpL _ r x hr hx
   exact ⟨h1, h2.kept (nb_kept hW)⟩
open Go.RowKit Go.Afx Go.Maps Go.WideMaps
theorem use_laid {w : World} {g : Nat} (hg : g = w.heap.size) : UseAt (w.alloc (.map #[] 0)) g [] := by subst hg; exact UseAt.made w
theorem UseAt.alloc {w : World} {b : Nat} {L : List ByteArray} (h : UseAt w b L) (o : Obj) : UseAt (w.alloc o) b L := World.ownsMap.alloc h o
theorem Sets.but {w w' : World} {S : Nat → Prop} {b1 b2 b3 : Nat} {L1 L2 L3 : List ByteArray} (h : Sets w b1 b2 b3 L1 L2 L3) (hb : But S w w') (n1 : ¬ S b1) (n2 : ¬ S b2) (n3 : ¬ S b3) : Sets w' b1 b2 b3 L1 L2 L3 := ⟨h.one.but hb n1, h.two.but hb n2, h.three.but hb n3, h.n12, h.n13, h.n23⟩
theorem usBox0 {w : World} {g : Nat} {T : TypeId} (h : IsBlk w g T #[.map none, .map none, .map none]) :
  w.cell? ⟨g, 0, none⟩ = some (.map none) ∧ w.cell? ⟨g, 1, none⟩ = some (.map none) ∧ w.cell? ⟨g, 2, none⟩ = some (.map none) ∧ g < w.heap.size := by
 have h0 := h.cell 0; have h1 := h.cell 1; have h2 := h.cell 2
 simp at h0 h1 h2
 exact ⟨h0, h1, h2, h.lt⟩
theorem res_ok {W w : World} {B g b1 b2 b3 : Nat} {R Wr Em : List ByteArray} (hS : Sets W b1 b2 b3 R Wr Em) (n1 : b1 ≠ g) (n2 : b2 ≠ g) (n3 : b3 ≠ g) (hB : Below B w W) (hg : B ≤ g) (u v x : Value) :
  Sets (((W.setCell ⟨g, 0, none⟩ u).setCell ⟨g, 1, none⟩ v).setCell ⟨g, 2, none⟩ x) b1 b2 b3 R Wr Em ∧ Below B w (((W.setCell ⟨g, 0, none⟩ u).setCell ⟨g, 1, none⟩ v).setCell ⟨g, 2, none⟩ x) := by
 have hb : But (fun k => k = g) W (((W.setCell ⟨g, 0, none⟩ u).setCell ⟨g, 1, none⟩ v).setCell ⟨g, 2, none⟩ x) := (((But.refl (fun k => k = g) W).setCell (p := ⟨g, 0, none⟩) (.inl rfl) u).setCell (p := ⟨g, 1, none⟩) (.inl rfl) v).setCell (p := ⟨g, 2, none⟩) (.inl rfl) x
 exact ⟨hS.but hb n1 n2 n3, ((hB.setCell (p := ⟨g, 0, none⟩) hg u).setCell (p := ⟨g, 1, none⟩) hg v).setCell (p := ⟨g, 2, none⟩) hg x⟩
def GivesU (w : World) (R Wr Em : List ByteArray) (r : Ending) (w' : World) : Prop :=
 ∃ b1 b2 b3, r = .returned (.agg #[.map (some b1), .map (some b2), .map (some b3)]) ∧ Sets w' b1 b2 b3 R Wr Em ∧ Below w.heap.size w w'
open Go.RowKit Go.Afx Go.Maps Go.WideMaps Go.Shelf Go.Sort
def setL (L : List ByteArray) : List (List UInt8) := (strKeys (setOf (.lit (.bool true)) (L.map litS) : DataW Unit)).mergeSort fun x y => decide (x ≤ y)
def OwnsN (w : World) (ns : List (List UInt8)) (e : Ending) (w' : World) : Prop :=
 ∃ A c, e = .returned (.slice A ns.length c) ∧ w'.ownsRow w.heap.size 9 1 (.slice A ns.length c) ns.length (ns.map encStr) ∧ Below w.heap.size w w'
open Go.RowKit Go.Afx
theorem resB_no {s : ByteArray} (h : ∀ y ∈ wordsL, (y.toList == s.toList) = false) : resB s = false := by
 unfold resB
 rw [List.any_eq_false]
 exact fun y hy => by simp [h y hy]
theorem resB_yes {s y : ByteArray} (h : y ∈ wordsL) (hy : (y.toList == s.toList) = true) : resB s = true := by
 unfold resB
 rw [List.any_eq_true]
 exact ⟨y, h, hy⟩
theorem words_ok : ∀ y ∈ wordsL, okS y := by unfold okS; decide +kernel
theorem resRef_any (s : ByteArray) (w : World) : Calls Tryz.prog 124 #[.string s] w fun x w' => x = .returned (.bool (resB s)) ∧ Below w.heap.size w w' := by
 obtain ⟨w1, Hw1⟩ : ∃ w1, Hid (w1 = w.alloc (.cells (wordsL.map fun s => Value.string s).toArray 9)) := ⟨_, rfl⟩
 have hb1 : Below w.heap.size w w1 := by rw [Hw1.out]; exact (Below.refl _ _).alloc (Nat.le_refl _) _
 have hl : LsAt (fun _ => True) w1 1 SRow (some ⟨w.heap.size, 0, none⟩) 43 43 wordsL := by
  rw [Hw1.out]
  refine ⟨wordsL.map fun s => [.string s], RowsAt.lit _ _ 43 rfl (by simp) rfl (by unfold maxLen; omega), fun _ _ _ => trivial, rfl, fun k r x hr hx => ?_⟩
  rw [List.getElem?_map, hx] at hr
  simp at hr
  subst hr
  exact ⟨rfl, rfl, words_ok x (List.mem_of_getElem? hx)⟩
 have Hw2 : Hid (w1 = w.alloc (.cells (wordsL.map fun s => Value.string s).toArray 9)) := Hw1
 simp only [wordsL, str, List.map_cons, List.map_nil] at Hw1
 have Hl := Lhd hl
 clear hl
 go_enter Tryz.func124, Tryz.ntmps124
 go_wp2
 rw [← Hw1.out]
 go_loop [4] (fun i => ∃ k : Nat, k ≤ 43 ∧ i = .int .i64 k ∧ ∀ y ∈ wordsL.take k, (y.toList == s.toList) = false) (fun i => 43 - (intOf i).toNat)
 case atStart => exact ⟨0, Nat.zero_le _, rfl, by simp⟩
 case round =>
  obtain ⟨k, hk, rfl, hno⟩ := hrel
  have Hno := Lhd hno; clear hno
  by_cases hlt : k < 43
  ·obtain ⟨b, o, x, hA, hbl, hx, hs, hc0⟩ := strAt Hl.out hlt
   cases hA
   have Hx := Lhd hx; clear hx
   simp only [Nat.zero_add] at hc0
   by_cases he : (x.toList == s.toList) = true
   ·have Hf := Lhd (resB_yes (List.mem_of_getElem? Hx.out) he)
    go_wp2
    go_ret
    exact ⟨by rw [Hf.out]; rfl, hb1⟩
   ·have he : (x.toList == s.toList) = false := by simpa using he
    have Hne := Lhd (mem_take_succ Hx.out Hno.out he)
    go_wp2
    go_round
    case rel => exact ⟨k + 1, by omega, by go_num, Hne.out⟩
    case measure => simp [intOf]; omega
  ·go_wp2
   go_ret
   have h1 := Hno.out
   rw [List.take_of_length_le (by simp only [wordsL, List.length_cons, List.length_nil]; omega)] at h1
   exact ⟨ret_bool (resB_no h1).symm, hb1⟩
theorem named_eq (s : ByteArray) (h : 0 < s.size) : namedB s = (decide (s.size ≤ 16) && letterB s[0] && s.data.toList.all partB) := by
 obtain ⟨c, r, hs, hc, hl⟩ := list_of s h
 unfold namedB
 rw [hs, hc, ← hl]
 simp only [List.all_cons]
 cases hq : letterB c
 ·simp
 ·simp [letter_part hq]
theorem namedRef_any (s : ByteArray) (w : World) (hs : okS s) : Calls Tryz.prog 69 #[.string s] w fun x w' => x = .returned (.bool (namedB s)) ∧ w = w' := by
 unfold okS at hs
 by_cases h0 : s.size = 0
 ·have hn : namedB s = false := by
   unfold namedB
   have : s.data.toList = [] := List.eq_nil_of_length_eq_zero (by simpa using h0)
   rw [this]
  have hd : decide ((s.size : Int) < 1) = true := by simp; omega
  have Hn := Lhd hn
  clear h0 hn
  go_enter Tryz.func69, Tryz.ntmps69
  go_wp2
  go_ret
  exact ⟨by rw [Hn.out]; rfl, rfl⟩
 ·have hpos : 0 < s.size := by omega
  have hd : decide ((s.size : Int) < 1) = false := by simp; omega
  have hn := named_eq s hpos
  clear h0
  by_cases h16 : 16 < s.size
  ·have hn2 : namedB s = false := by rw [hn]; simp; omega
   have Hn := Lhd hn2
   clear hn hn2
   have hd2 : decide ((16 : Int) < (s.size : Int)) = true := by simp; omega
   go_enter Tryz.func69, Tryz.ntmps69
   go_wp2
   go_ret
   exact ⟨by rw [Hn.out]; rfl, rfl⟩
  ·have hd2 : decide ((16 : Int) < (s.size : Int)) = false := by simp; omega
   have hn2 : namedB s = (letterB s[0] && s.data.toList.all partB) := by rw [hn, decide_eq_true (by omega : s.size ≤ 16), Bool.true_and]
   have Hn := Lhd hn2
   clear hn hn2
   go_enter Tryz.func69, Tryz.ntmps69
   go_wp2
   clear hd hd2
   go_loop [3] (fun i => ∃ k : Nat, k ≤ s.size ∧ i = .int .i64 k ∧ (k = 0 ∨ letterB s[0] = true) ∧ ∀ y ∈ s.data.toList.take k, partB y = true) (fun i => s.size - (intOf i).toNat)
   case atStart => exact ⟨0, Nat.zero_le _, rfl, .inl rfl, by simp⟩
   case round =>
    obtain ⟨k, hk, rfl, hl0, hall⟩ := hrel
    have Hall := Lhd hall
    have Hl0 := Lhd hl0
    clear hall hl0
    by_cases hlt : k < s.size
    ·have Hy := Lhd (show s.data.toList[k]? = some s[k] by rw [List.getElem?_eq_getElem (by simpa using hlt)]; rfl)
     have Hgo := Lhd (fun (h1 : partB s[k] = true) (h2 : k = 0 → letterB s[k] = true) => (⟨by
       by_cases hk0 : k = 0
       ·subst hk0; exact .inr (h2 rfl)
       ·rcases Hl0.out with h | h
        ·exact absurd h hk0
        ·exact .inr h, mem_take_succ Hy.out Hall.out h1⟩ : (k + 1 = 0 ∨ letterB s[0] = true) ∧ ∀ y ∈ s.data.toList.take (k + 1), partB y = true))
     have Hst := Lhd (fun (h : letterB s[k] = false) (hk0 : k = 0) => (show namedB s = false by subst hk0; rw [Hn.out, h]; rfl))
     have Hst2 := Lhd (fun (h : partB s[k] = false) => (show namedB s = false by
      have : s.data.toList.all partB = false := by rw [List.all_eq_false]; exact ⟨_, List.mem_of_getElem? Hy.out, by simp [h]⟩
      rw [Hn.out, this]; simp))
     have HL : Hid (letterB s[k] = (decide (97 ≤ s[k].toNat) && decide (s[k].toNat ≤ 122))) := Lhd rfl
     have HP : Hid (partB s[k] = ((decide (97 ≤ s[k].toNat) && decide (s[k].toNat ≤ 122)) || (decide (48 ≤ s[k].toNat) && decide (s[k].toNat ≤ 57)) || decide (s[k].toNat = 95))) := Lhd rfl
     generalize hc : s[k].toNat = c at HL HP
     by_cases hA : 97 ≤ c
     ·by_cases hB : c ≤ 122
      ·have dA : (decide ((97 : Int) ≤ (s[k].toNat : Int))) = true := by simp; omega
       have dB : (decide ((s[k].toNat : Int) ≤ (122 : Int))) = true := by simp; omega
       have Hg := Lhd (Hgo.out (by rw [HP.out]; simp; omega) (by intro h; rw [HL.out]; simp; omega))
       clear hc
       go_wp2
       go_round
       case rel => exact ⟨k + 1, by omega, by go_num, Hg.out.1, Hg.out.2⟩
       case measure => simp [intOf]; omega
      ·by_cases hk0 : k = 0
       ·have dA : (decide ((97 : Int) ≤ (s[k].toNat : Int))) = true := by simp; omega
        have dB : (decide ((s[k].toNat : Int) ≤ (122 : Int))) = false := by simp; omega
        have dK : (((k : Int) == 0)) = true := by simp; omega
        have Hg := Lhd (Hst.out (by rw [HL.out]; simp; omega) (by omega))
        clear hc hk0
        go_wp2
        go_ret
        exact ⟨ret_bool Hg.out.symm, rfl⟩
       ·have dA : (decide ((97 : Int) ≤ (s[k].toNat : Int))) = true := by simp; omega
        have dB : (decide ((s[k].toNat : Int) ≤ (122 : Int))) = false := by simp; omega
        have dC : (decide ((48 : Int) ≤ (s[k].toNat : Int))) = true := by simp; omega
        have dD : (decide ((s[k].toNat : Int) ≤ (57 : Int))) = false := by simp; omega
        have dE : (((s[k].toNat : Int) != 95)) = true := by simp; omega
        have dK : (((k : Int) == 0)) = false := by simp; omega
        have Hg := Lhd (Hst2.out (by rw [HP.out]; simp; omega))
        clear hc
        go_wp2
        go_ret
        exact ⟨ret_bool Hg.out.symm, rfl⟩
     ·by_cases hk0 : k = 0
      ·have dA : (decide ((97 : Int) ≤ (s[k].toNat : Int))) = false := by simp; omega
       have dK : (((k : Int) == 0)) = true := by simp; omega
       have Hg := Lhd (Hst.out (by rw [HL.out]; simp; omega) (by omega))
       clear hc hk0
       go_wp2
       go_ret
       exact ⟨ret_bool Hg.out.symm, rfl⟩
      ·by_cases hC : 48 ≤ c
       ·by_cases hD : c ≤ 57
        ·have dA : (decide ((97 : Int) ≤ (s[k].toNat : Int))) = false := by simp; omega
         have dC : (decide ((48 : Int) ≤ (s[k].toNat : Int))) = true := by simp; omega
         have dD : (decide ((s[k].toNat : Int) ≤ (57 : Int))) = true := by simp; omega
         have dK : (((k : Int) == 0)) = false := by simp; omega
         have Hg := Lhd (Hgo.out (by rw [HP.out]; simp; omega) (by intro h; rw [HL.out]; simp; omega))
         clear hc
         go_wp2
         go_round
         case rel => exact ⟨k + 1, by omega, by go_num, Hg.out.1, Hg.out.2⟩
         case measure => simp [intOf]; omega
        ·by_cases hE : c = 95
         ·have dA : (decide ((97 : Int) ≤ (s[k].toNat : Int))) = false := by simp; omega
          have dC : (decide ((48 : Int) ≤ (s[k].toNat : Int))) = true := by simp; omega
          have dD : (decide ((s[k].toNat : Int) ≤ (57 : Int))) = false := by simp; omega
          have dE : (((s[k].toNat : Int) != 95)) = false := by simp; omega
          have dK : (((k : Int) == 0)) = false := by simp; omega
          have Hg := Lhd (Hgo.out (by rw [HP.out]; simp; omega) (by intro h; rw [HL.out]; simp; omega))
          clear hc
          go_wp2
          go_round
          case rel => exact ⟨k + 1, by omega, by go_num, Hg.out.1, Hg.out.2⟩
          case measure => simp [intOf]; omega
         ·have dA : (decide ((97 : Int) ≤ (s[k].toNat : Int))) = false := by simp; omega
          have dC : (decide ((48 : Int) ≤ (s[k].toNat : Int))) = true := by simp; omega
          have dD : (decide ((s[k].toNat : Int) ≤ (57 : Int))) = false := by simp; omega
          have dE : (((s[k].toNat : Int) != 95)) = true := by simp; omega
          have dK : (((k : Int) == 0)) = false := by simp; omega
          have Hg := Lhd (Hst2.out (by rw [HP.out]; simp; omega))
          clear hc
          go_wp2
          go_ret
          exact ⟨ret_bool Hg.out.symm, rfl⟩
       ·have dA : (decide ((97 : Int) ≤ (s[k].toNat : Int))) = false := by simp; omega
        have dC : (decide ((48 : Int) ≤ (s[k].toNat : Int))) = false := by simp; omega
        have dE : (((s[k].toNat : Int) != 95)) = true := by simp; omega
        have dK : (((k : Int) == 0)) = false := by simp; omega
        have Hg := Lhd (Hst2.out (by rw [HP.out]; simp; omega))
        clear hc
        go_wp2
        go_ret
        exact ⟨ret_bool Hg.out.symm, rfl⟩
    ·go_wp2
     go_ret
     have h1 := Hall.out
     rw [List.take_of_length_le (by simp; omega)] at h1
     have h2 : letterB s[0] = true := Hl0.out.resolve_left (by omega)
     exact ⟨ret_bool (by rw [Hn.out, h2, Bool.true_and, eq_comm, List.all_eq_true]; exact h1), rfl⟩
theorem freeRef_any (s : ByteArray) (w : World) (hs : okS s) : Calls Tryz.prog 77 #[.string s] w fun x w' => x = .returned (.bool (freeB s)) ∧ Below w.heap.size w w' := by
 have h1 := namedRef_any s w hs
 have h2 := resRef_any s w
 have hf : freeB s = (namedB s && !resB s) := rfl
 generalize resB s = r at *
 generalize namedB s = q at *
 have Hf := Lhd hf
 have H1 := Lhd h1
 have H2 := Lhd h2
 clear h1 h2 hf
 cases q
 ·go_enter Tryz.func77, Tryz.ntmps77
  go_wp2_with (go_at_call 69; refine H1.out.mono ?_; rintro x w1 ⟨rfl, rfl⟩)
  go_ret
  exact ⟨ret_bool (by rw [Hf.out]; rfl), Below.refl _ _⟩
 ·go_enter Tryz.func77, Tryz.ntmps77
  go_wp2_with (first | (go_at_call 69; refine H1.out.mono ?_; rintro x w1 ⟨rfl, rfl⟩) | (go_at_call 124; refine H2.out.mono ?_; rintro x w2 ⟨rfl, hb2⟩))
  go_ret
  exact ⟨ret_bool (by rw [Hf.out]; rfl), hb2⟩
open Go.RowKit Go.Afx Go.Maps
def NamesAt (w : World) (A : Option Addr) (n c : Nat) (xs : List ByteArray) : Prop := RowsAt w 1 A n c (xs.map srow)
theorem NamesAt.below {w w' : World} {A : Option Addr} {n c : Nat} {xs : List ByteArray} (h : NamesAt w A n c xs) (hb : Below w.heap.size w w') : NamesAt w' A n c xs := RowsAt.below h hb
theorem NamesAt.len {w : World} {A : Option Addr} {n c : Nat} {xs : List ByteArray} (h : NamesAt w A n c xs) : xs.length = n := by have := RowsAt.len h; simpa using this
theorem NamesAt.at_ {w : World} {A : Option Addr} {n c : Nat} {xs : List ByteArray} (h : NamesAt w A n c xs) {k : Nat} (hk : k < n) : ∃ b o x, A = some ⟨b, o, none⟩ ∧ b < w.heap.size ∧ xs[k]? = some x ∧ w.cell? ⟨b, o + k, none⟩ = some (.string x) := by
 have hl := h.len
 have hx : xs[k]? = some (xs[k]'(by omega)) := List.getElem?_eq_getElem _
 obtain ⟨b, o, hA, hb, hc⟩ := RowsAt.one (u := .string (xs[k]'(by omega))) h (k := k) (by rw [List.getElem?_map, hx]; rfl)
 exact ⟨b, o, _, hA, hb, hx, hc⟩
theorem take_same {xs ys : List ByteArray} {k : Nat} {x y : ByteArray} (hx : xs[k]? = some x) (hy : ys[k]? = some y) (h : xs.take k = ys.take k) (he : x = y) : xs.take (k + 1) = ys.take (k + 1) := by
 rw [take_succ_of' hx, take_succ_of' hy, h, he]
/-! the example -/
theorem resB_alt (s : ByteArray) : resB s = wordsL.any fun x => decide (x = s) := by
 unfold resB
 congr 1
 funext x
 exact bs_eq
def exE : Ex := .mk 3 1 (str []) (str []) (str []) []
def exS : St := .mk 5 (str [97]) (str [116]) 0 [] [exE] [] []
def exP : Pr := ⟨str [112], str [], str [], 1, [], [exS]⟩
theorem free_p : freeB (str [112]) = true := by rw [freeB, resB_alt]; decide +kernel
theorem free_a : freeB (str [97]) = true := by rw [freeB, resB_alt]; decide +kernel
theorem free_t : freeB (str [116]) = true := by rw [freeB, resB_alt]; decide +kernel
theorem noS_e : noS (str []) = true := by unfold noS; decide +kernel
theorem ex_size : sizeP 2 exP = (2, 2) := by decide +kernel
theorem ex_told : toldZ (sizeP 2 exP) = (2, 2) := by rw [ex_size]; rfl
theorem ex_headE : headE exE = true := by decide +kernel
theorem ex_builtE (d : Nat) : builtE (d + 1) exE = true := by rw [builtE, ex_headE]; rfl
theorem ex_shape : shapeB exS = true := by
 have h : shapeB exS = shapeP true false false false false true 1 1 (str [97]) (str [116]) 0 [] 1 0 0 := rfl
 rw [h]
 unfold shapeP
 simp [free_a, free_t]
theorem ex_builtS : builtS 2 exS = true := by
 rw [builtS, ex_shape]
 simp [exS, St.exprs, St.body, St.els, ex_builtE]
theorem ex_heads : headsR (str [112]) (str []) (str []) 1 [] = true := by
 unfold headsR
 simp [free_p, noS_e, freesB]
theorem ex_right : rightB 2 exP = true := by
 have h : rightB 2 exP = (headsR (str [112]) (str []) (str []) 1 [] && smallZ (sizeP 2 exP) && [exS].all (builtS 2)) := rfl
 rw [h, ex_heads, ex_size]
 simp [ex_builtS, smallZ]
theorem ex_reads : readsP 2 exP = [str [116]] := by
 have h : readsP 2 exP = if rightB 2 exP then [str [116]] else [] := rfl
 rw [h, ex_right]; rfl
theorem ex_writes : writesP 2 exP = [str [116]] := by
 have h : writesP 2 exP = if rightB 2 exP then [str [116]] else [] := rfl
 rw [h, ex_right]; rfl
theorem ex_set : setL [str [116]] = [[116]] := by
 have h : (strKeys (setOf (.lit (.bool true)) ([str [116]].map litS) : DataW Unit)) = [[116]] := by rfl
 rw [setL, h]
 simp
theorem OwnsN.names {w : World} {base : Nat} {A : Option Addr} {c : Nat} {ns : List (List UInt8)} (h : w.ownsRow base 9 1 (.slice A ns.length c) ns.length (ns.map encStr)) : NamesAt w A ns.length c (ns.map str) := by
 have e : ((ns.map str).map srow).flatten = ns.map encStr := by
  rw [List.map_map]
  induction ns with
  | nil => rfl
  | cons a r ih =>
   have : ∀ r : List (List UInt8), (r.map (srow ∘ str)).flatten = r.map encStr := by
    intro r
    induction r with
    | nil => rfl
    | cons b r ih => rw [List.map_cons, List.flatten_cons, ih]; rfl
   exact this _
 exact RowsAt.of_own (e ▸ h) srow_len (by simp)
theorem pick_none (k : Int) (w : World) : Calls Tryz.prog 21 #[.int .i64 k, .int .i64 0] w fun x w' => x = .returned (.int .i64 (-1)) ∧ w = w' := by
 go_enter Tryz.func21, Tryz.ntmps21
 go_wp2
 go_ret
 exact ⟨rfl, rfl⟩
theorem pick_zero (k : Int) (n : Nat) (w : World) (hn : n = 0) : Calls Tryz.prog 21 #[.int .i64 k, .int .i64 (n : Int)] w fun x w' => x = .returned (.int .i64 (-1)) ∧ w = w' := by
 subst hn
 exact pick_none k w
theorem u64_nonneg (k : Int) : 0 ≤ IntKind.u64.wrap k := by
 simp only [IntKind.wrap, IntKind.bits, IntKind.signed]
 simp
 omega
def pickN (k : Int) (n : Nat) : Nat := n - 1 - (IntKind.u64.wrap k % (n : Int)).toNat
theorem pickN_lt (k : Int) (n : Nat) (h : 0 < n) : pickN k n < n := by unfold pickN; omega
theorem pick_int (k : Int) (n : Nat) (h0 : 0 < n) (h1 : n ≤ 1000) : wrap64 ((n : Int) - 1 - wrap64 ((IntKind.u64.wrap k).tmod (n : Int))) = (pickN k n : Int) := by
 have hu := u64_nonneg k
 unfold pickN
 generalize IntKind.u64.wrap k = u at *
 rw [Int.tmod_eq_emod_of_nonneg hu]
 have a := Int.emod_nonneg u (b := (n : Int)) (by omega)
 have b := Int.emod_lt_of_pos u (b := (n : Int)) (by omega)
 generalize u % (n : Int) = m at *
 rw [IntWalk.wrap64_in m ⟨by omega, by omega⟩, IntWalk.wrap64_in _ ⟨by omega, by omega⟩]
 omega
theorem pick_some (k : Int) (n : Nat) (w : World) (h0 : 0 < n) (h1 : n ≤ 1000) : Calls Tryz.prog 21 #[.int .i64 k, .int .i64 (n : Int)] w fun x w' => x = .returned (.int .i64 (pickN k n : Int)) ∧ w = w' := by
 have hd : ((n : Int) == 0) = false := by simp; omega
 go_enter Tryz.func21, Tryz.ntmps21
 go_wp2
 go_ret
 exact ⟨ret_int (pick_int k n h0 h1), rfl⟩
theorem told2_any (n d : Int) (w : World) : Calls Tryz.prog 22 #[.int .i64 n, .int .i64 d] w fun x w' => x = .returned (.tuple #[.int .i64 (toldZ (n, d)).1, .int .i64 (toldZ (n, d)).2]) ∧ w = w' := by
 by_cases h1 : 1000 ≤ n
 ·have hf : toldZ (n, d) = (1000, 1000) := by simp [toldZ, fullZ, h1]
  have Hf := Lhd hf
  have hd : decide ((1000 : Int) ≤ n) = true := by simpa using h1
  clear hf
  go_enter Tryz.func22, Tryz.ntmps22
  go_wp2
  go_ret2
  exact ⟨by rw [Hf.out]; rfl, rfl⟩
 ·have hd : decide ((1000 : Int) ≤ n) = false := by simpa using h1
  by_cases h2 : 1000 ≤ d
  ·have hf : toldZ (n, d) = (1000, 1000) := by simp [toldZ, fullZ, h2]
   have Hf := Lhd hf
   have hd2 : decide ((1000 : Int) ≤ d) = true := by simpa using h2
   clear hf
   go_enter Tryz.func22, Tryz.ntmps22
   go_wp2
   go_ret2
   exact ⟨by rw [Hf.out]; rfl, rfl⟩
  ·have hd2 : decide ((1000 : Int) ≤ d) = false := by simpa using h2
   have hf : toldZ (n, d) = (n, d) := by simp [toldZ, fullZ, h1, h2]
   have Hf := Lhd hf
   clear hf
   go_enter Tryz.func22, Tryz.ntmps22
   go_wp2
   go_ret2
   exact ⟨by rw [Hf.out]; rfl, rfl⟩
end Go.Proofs.YtmgldjpdhpopnaaGreatDoor
namespace Go.Afx
open Go.RowKit
def FitsE : Nat → Ex → Prop
 | 0, _ => False
 | d + 1, e => ∀ x ∈ e.args, FitsE d x
def FitsS : Nat → St → Prop
 | 0, _ => False
 | d + 1, x => (∀ y ∈ x.exprs, FitsE d y) ∧ (∀ y ∈ x.body, FitsS d y) ∧ (∀ y ∈ x.els, FitsS d y)
theorem FitsE.mono (d : Nat) : ∀ {d' : Nat} {e : Ex}, d ≤ d' → FitsE d e → FitsE d' e := by
 induction d with
 | zero => intro d' e _ h; exact h.elim
 | succ d ih =>
  intro d' e hd h
  obtain ⟨d', rfl⟩ : ∃ k, d' = k + 1 := ⟨d' - 1, by omega⟩
  exact fun x hx => ih (by omega) (h x hx)
theorem ls_mem {α : Type} {F : Nat → Prop} {w : World} {sz : Nat} {P : List Value → α → Prop} {A : Option Addr} {n c : Nat} {xs : List α} (h : LsAt F w sz P A n c xs) {x : α} (hx : x ∈ xs) : ∃ r, P r x := by
 obtain ⟨rows, _, _, hl, hp⟩ := h
 obtain ⟨k, hk⟩ := List.mem_iff_getElem?.1 hx
 have hlt := (List.getElem?_eq_some_iff.1 hk).1
 exact ⟨_, (hp k _ x (List.getElem?_eq_getElem (by omega)) hk).2⟩
theorem ExAt.fits {F : Nat → Prop} {w : World} (d : Nat) : ∀ {r : List Value} {e : Ex}, ExAt F d w r e → FitsE d e := by
 induction d with
 | zero => intro r e h; exact h.elim
 | succ d ih =>
  intro r e h x hx
  obtain ⟨_, _, _, _, _, A, m, c, _, hl⟩ := h
  obtain ⟨r2, h2⟩ := ls_mem hl hx
  exact ih h2
theorem StAt.fits {F : Nat → Prop} {w : World} (d : Nat) : ∀ {r : List Value} {e : St}, StAt F d w r e → FitsS d e := by
 induction d with
 | zero => intro r e h; exact h.elim
 | succ d ih =>
  intro r e h
  obtain ⟨_, _, _, _, Ac, nc, cc, Ae, ne, ce, Ab, nb, cb, Al, nl, cl, _, _, k2, k3, k4⟩ := h
  exact ⟨fun y hy => by obtain ⟨r2, h2⟩ := ls_mem k2 hy; exact h2.fits d, fun y hy => by obtain ⟨r2, h2⟩ := ls_mem k3 hy; exact ih h2, fun y hy => by obtain ⟨r2, h2⟩ := ls_mem k4 hy; exact ih h2⟩
theorem map_same {α β : Type} {f g : α → β} {l : List α} (h : ∀ x ∈ l, f x = g x) : l.map f = l.map g := List.map_congr_left h
theorem flat_same {α β : Type} {f g : α → List β} : ∀ {l : List α}, (∀ x ∈ l, f x = g x) → l.flatMap f = l.flatMap g := by
 intro l
 induction l with
 | nil => intro _; rfl
 | cons a r ih => intro h; rw [List.flatMap_cons, List.flatMap_cons, h a (by simp), ih fun x hx => h x (by simp [hx])]
theorem all_same {α : Type} {f g : α → Bool} : ∀ {l : List α}, (∀ x ∈ l, f x = g x) → l.all f = l.all g := by
 intro l
 induction l with
 | nil => intro _; rfl
 | cons a r ih => intro h; rw [List.all_cons, List.all_cons, h a (by simp), ih fun x hx => h x (by simp [hx])]
theorem cntE_fits (d : Nat) : ∀ {d' : Nat} {e : Ex}, d ≤ d' → FitsE d e → cntE d' e = cntE d e := by
 induction d with
 | zero => intro d' e _ h; exact h.elim
 | succ d ih =>
  intro d' e hd h
  obtain ⟨d', rfl⟩ : ∃ k, d' = k + 1 := ⟨d' - 1, by omega⟩
  rw [cntE, cntE, map_same fun x hx => ih (by omega) (h x hx)]
theorem dptE_fits (d : Nat) : ∀ {d' : Nat} {e : Ex}, d ≤ d' → FitsE d e → dptE d' e = dptE d e := by
 induction d with
 | zero => intro d' e _ h; exact h.elim
 | succ d ih =>
  intro d' e hd h
  obtain ⟨d', rfl⟩ : ∃ k, d' = k + 1 := ⟨d' - 1, by omega⟩
  rw [dptE, dptE, map_same fun x hx => ih (by omega) (h x hx)]
theorem builtE_fits (d : Nat) : ∀ {d' : Nat} {e : Ex}, d ≤ d' → FitsE d e → builtE d' e = builtE d e := by
 induction d with
 | zero => intro d' e _ h; exact h.elim
 | succ d ih =>
  intro d' e hd h
  obtain ⟨d', rfl⟩ : ∃ k, d' = k + 1 := ⟨d' - 1, by omega⟩
  rw [builtE, builtE, all_same fun x hx => ih (by omega) (h x hx)]
theorem srcsE_fits (d : Nat) : ∀ {d' : Nat} {e : Ex}, d ≤ d' → FitsE d e → srcsE d' e = srcsE d e := by
 induction d with
 | zero => intro d' e _ h; exact h.elim
 | succ d ih =>
  intro d' e hd h
  obtain ⟨d', rfl⟩ : ∃ k, d' = k + 1 := ⟨d' - 1, by omega⟩
  rw [srcsE, srcsE, flat_same fun x hx => ih (by omega) (h x hx)]
theorem cntS_fits (d : Nat) : ∀ {d' : Nat} {e : St}, d ≤ d' → FitsS d e → cntS d' e = cntS d e := by
 induction d with
 | zero => intro d' e _ h; exact h.elim
 | succ d ih =>
  intro d' e hd h
  obtain ⟨d', rfl⟩ : ∃ k, d' = k + 1 := ⟨d' - 1, by omega⟩
  rw [cntS, cntS, map_same fun x hx => cntE_fits d (by omega) (h.1 x hx), map_same fun x hx => ih (by omega) (h.2.1 x hx), map_same fun x hx => ih (by omega) (h.2.2 x hx)]
theorem dptS_fits (d : Nat) : ∀ {d' : Nat} {e : St}, d ≤ d' → FitsS d e → dptS d' e = dptS d e := by
 induction d with
 | zero => intro d' e _ h; exact h.elim
 | succ d ih =>
  intro d' e hd h
  obtain ⟨d', rfl⟩ : ∃ k, d' = k + 1 := ⟨d' - 1, by omega⟩
  rw [dptS, dptS, map_same fun x hx => dptE_fits d (by omega) (h.1 x hx), map_same fun x hx => ih (by omega) (h.2.1 x hx), map_same fun x hx => ih (by omega) (h.2.2 x hx)]
end Go.Afx
