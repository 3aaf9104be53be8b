/- Parts of this proof, one behind the other: PrtA, PrtB. -/
import Derived.Test.YthiimingnmbgmaaDoorPe1
import Derived.Test.YthiimingnmbgmaaDoorPe26
import Derived.Test.YthiimingnmbgmaaDoorProg
import Derived.Laws.IdiomStrings
import Derived.WalkLawsBesides
import Derived.Lib.Hide
import Derived.Outline
import Derived.Lib.Builder
import Derived.Lib.AppendStr
import Derived.Lib.UnsafeStr
import Derived.Laws.Externs
import Derived.Laws.IdiomCopy
import Derived.Lib.Strings
namespace Go.Proofs.YthiimingnmbgmaaDoor
open Go.RowKit Go.Afx

theorem size_nn (n : Int) (w : World) (h0 : 0 ≤ n) (h1 : n ≤ 9223372036854775807) : Calls Tryd.prog 48 #[.int .i64 n] w fun e w' => e = .returned (.int .u64 n) ∧ w = w' := by
  have e : IntKind.u64.wrap n = n := by simp only [IntKind.wrap, IntKind.bits, IntKind.signed]; simp; omega
  go_enter Tryd.func48, Tryd.ntmps48
  go_wp2
  go_ret
  exact ⟨rfl, rfl⟩

/-- what stands while digits are laid, from the end on -/
structure DigsIn (n : Nat) (g : Nat) (w : World) (wr : World) (a u : Nat) : Prop where
  low : Below g w wr
  at_ : a ≤ 20
  fits : u < 10 ^ (a - 1)
  cells : ∃ cs : Array Value, IsBlk wr g 96 cs ∧ cs.size = 20 ∧ ∃ tl : List UInt8, tl.length = 20 - a ∧ digs n = digs u ++ tl ∧ ∀ j, j < tl.length → cs[a + j]? = some (.int .u8 ((tl.getD j 0).toNat : Int))

theorem u8_digit (u : Nat) : ((UInt8.ofNat (48 + u % 10)).toNat : Int) = 48 + (u : Int) % 10 := by
  rw [UInt8.toNat_ofNat']
  omega
theorem DigsIn.step {n g : Nat} {w wr : World} {b u : Nat} (h : DigsIn n g w wr (b + 1) u) (hu : 0 < u) : DigsIn n g w (wr.setCell ⟨g, b, none⟩ (.int .u8 (48 + (u : Int) % 10))) b (u / 10) := by
  obtain ⟨cs, hx, hsz, tl, htl, hdg, hcs⟩ := h.cells
  have ha := h.at_
  refine ⟨h.low.setCell (p := ⟨g, b, none⟩) (Nat.le_refl _) _, by omega, ?_, _, hx.stored b _, by simp [hsz], UInt8.ofNat (48 + u % 10) :: tl, by simp [htl]; omega, ?_, fun j hj => ?_⟩
  · have hf := h.fits
    rw [Nat.add_sub_cancel] at hf
    rcases Nat.eq_zero_or_pos b with rfl | hb
    · simp at hf; omega
    · obtain ⟨c, rfl⟩ : ∃ c, b = c + 1 := ⟨b - 1, by omega⟩
      rw [Nat.pow_succ] at hf
      rw [Nat.add_sub_cancel]
      omega
  · rw [hdg, digs_pos hu, List.append_assoc]
    rfl
  · cases j with
    | zero =>
      rw [Nat.add_zero, Array.getElem?_setIfInBounds_self_of_lt (by omega)]
      rw [List.getD_cons_zero, u8_digit]
    | succ j =>
      have h1 := hcs j (by simpa using hj)
      rw [Array.getElem?_setIfInBounds_ne (by omega), List.getD_cons_succ, ← h1]
      congr 1
      omega
theorem digs_room {a u : Nat} (h : u < 10 ^ (a - 1)) (hu : 0 < u) : 2 ≤ a := by
  rcases Nat.lt_or_ge a 2 with h1 | h1
  · have : a - 1 = 0 := by omega
    rw [this] at h
    simp at h
    omega
  · exact h1
set_option maxRecDepth 100000 in
set_option maxHeartbeats 1000000 in
theorem calcPrint_any (n : Int) (w : World) (h0 : 0 ≤ n) (h1 : n ≤ 9223372036854775807) : Calls Tryd.prog 31 #[.int .i64 n] w fun e w' => e = .returned (.string ⟨(decS n).toArray⟩) ∧ Below w.heap.size w w' := by
  by_cases hz : n = 0
  · subst hz
    go_enter Tryd.func31, Tryd.ntmps31
    go_wp2
    go_ret
    exact ⟨rfl, Below.refl _ _⟩
  have hd : (n == 0) = false := by simpa using hz
  have hn : ¬ n < 0 := by omega
  have Hz := Lib.hid hz
  clear hz
  go_enter Tryd.func31, Tryd.ntmps31
  go_wp2_with (go_at_call 48; refine (size_nn n _ h0 h1).mono ?_; rintro e w' ⟨rfl, rfl⟩)
  have hx0 := IsBlk.laid w 96 #[.int .u8 0, .int .u8 0, .int .u8 0, .int .u8 0, .int .u8 0, .int .u8 0, .int .u8 0, .int .u8 0, .int .u8 0, .int .u8 0, .int .u8 0, .int .u8 0, .int .u8 0, .int .u8 0, .int .u8 0, .int .u8 0, .int .u8 0, .int .u8 0, .int .u8 0, .int .u8 0]
  have hstart : DigsIn n.toNat w.heap.size w (w.alloc (.cells #[.int .u8 0, .int .u8 0, .int .u8 0, .int .u8 0, .int .u8 0, .int .u8 0, .int .u8 0, .int .u8 0, .int .u8 0, .int .u8 0, .int .u8 0, .int .u8 0, .int .u8 0, .int .u8 0, .int .u8 0, .int .u8 0, .int .u8 0, .int .u8 0, .int .u8 0, .int .u8 0] 96)) 20 n.toNat :=
    ⟨(Below.refl _ _).alloc (Nat.le_refl _) _, Nat.le_refl _, by have : (10 : Nat) ^ (20 - 1) = 10000000000000000000 := by decide
                                                                 omega, _, hx0, rfl, [], rfl, by simp, fun j hj => by simp at hj⟩
  have Hst := Lib.hid hstart
  obtain ⟨N, rfl⟩ : ∃ N : Nat, n = (N : Int) := ⟨n.toNat, by omega⟩
  clear hx0 hstart
  go_loopw [4, 5] (fun a u wr => ∃ (k m : Nat), a = .int .i64 k ∧ u = .int .u64 m ∧ m ≤ N ∧ DigsIn N w.heap.size w wr k m) (fun _ u _ => (intOf u).toNat)
  case atStart => exact ⟨20, N, rfl, rfl, Nat.le_refl _, Hst.out⟩
  case round =>
    obtain ⟨a, u, rfl, rfl, hle, hD⟩ := hrel
    have HD := Lib.hid hD
    by_cases hu : 0 < u
    · have h2 := digs_room hD.fits hu
      obtain ⟨b, rfl⟩ : ∃ b, a = b + 1 := ⟨a - 1, by omega⟩
      have hb20 := hD.at_
      obtain ⟨cs, hx, hsz, tl, htl, hdg, hcs⟩ := hD.cells
      have hlt := hx.lt
      have hcell : wr.cell? ⟨w.heap.size, b, none⟩ = some (cs[b]'(by omega)) := by rw [hx.cell]; exact Array.getElem?_eq_getElem _
      have hfz := hx.frozen
      have Hx := Lib.hid hx
      have Hc := Lib.hid hcs
      have Hd := Lib.hid hdg
      have Htl := Lib.hid htl
      have e1 : IntKind.u8.wrap (48 + (u : Int) % 10) = 48 + (u : Int) % 10 := by simp only [IntKind.wrap, IntKind.bits, IntKind.signed]; simp; omega
      have Hsz := Lib.hid hsz
      generalize cs[b]'(by omega) = old at *
      clear hx hcs hdg htl hD hsz
      go_wp2
      go_roundw
      case rel => exact ⟨b, u / 10, rfl, by go_num, Nat.le_trans (Nat.div_le_self _ _) hle, HD.out.step hu⟩
      case measure => simp [intOf]; omega
    · obtain rfl : u = 0 := by omega
      have ha20 := hD.at_
      obtain ⟨cs, hx, hsz, tl, htl, hdg, hcs⟩ := hD.cells
      have hdg' : decS (N : Int) = tl := by
        unfold decS
        rw [if_neg Hz.out, Int.toNat_natCast, hdg, digs_zero, List.nil_append]
      have hcv := fun (src : TypeId) (hs : Tryd.prog.underlying src = some (.slice 5)) => run_convert_bytes_back (P := Tryd.prog) wr src 9 5 ⟨w.heap.size, a, none⟩ (20 - a) tl hs Tryd.underlying5 Tryd.underlying9 (fun j hj => by
        have h := hcs j hj
        have e : ((⟨w.heap.size, a, none⟩ : Addr).add j) = ⟨w.heap.size, a + j, none⟩ := by
          unfold Addr.add
          split
          · rename_i h0; subst h0; rfl
          · rfl
        rw [e, hx.cell, h, List.getD_eq_getElem?_getD, List.getElem?_eq_getElem hj]
        rfl)
      rw [htl] at hcv
      have Hcv := Lib.hid (hcv 66 Tryd.underlying66)
      have Hlow := Lib.hid hD.low
      have hf := Hcv.out
      have i1 : (0 : Int) ≤ (a : Int) := by omega
      have i2 : (a : Int) ≤ 20 := by omega
      have ha : a < 20 := by
        have hN : 0 < N := by have := Hz.out; omega
        have h := hdg
        rw [digs_zero, List.nil_append, digs_pos hN] at h
        have h2 : tl.length ≠ 0 := by rw [← h]; simp
        omega
      have ha2 : ¬ a = 20 := by omega
      have ha3 : ¬ 20 = a := by omega
      have hd2 : decide ((N : Int) < 0) = false := by simp
      have Hdg := Lib.hid hdg'
      clear hcv hcs hx hdg htl hD hdg'
      go_wp2
      go_ret
      exact ⟨by rw [Hdg.out]; rfl, Hlow.out⟩
end Go.Proofs.YthiimingnmbgmaaDoor

namespace Go.Proofs.YthiimingnmbgmaaDoor
open Go.RowKit Go.Afx

/-- a writer in block g: what it holds, whether a text had a newline; its letters lie in a row of its own, behind it -/
def WtIn (g : Nat) (t : List UInt8) (br : Bool) (p : Option Addr) (w : World) : Prop :=
  ∃ (A : Option Addr) (c : Nat), IsBlk w g 70 #[.pointer p, .slice A t.length c, .bool br] ∧ w.ownsRow (g + 1) 5 1 (.slice A t.length c) t.length (Lib.byteCells t)
def WtAt (g : Nat) (t : List UInt8) (br : Bool) (w : World) : Prop := WtIn g t br none w ∨ WtIn g t br (some ⟨g, 0, none⟩) w
/-- all blocks but writers and their rows stand as they are -/
def KeepT (w w' : World) : Prop := w.heap.size ≤ w'.heap.size ∧ ∀ (b : Nat) (T : TypeId) (cs : Array Value), T ≠ 70 → T ≠ 5 → IsBlk w b T cs → IsBlk w' b T cs
def Wrote (g : Nat) (w w' : World) : Prop := Below g w w' ∧ KeepT w w'
theorem KeepT.refl (w : World) : KeepT w w := ⟨Nat.le_refl _, fun _ _ _ _ _ h => h⟩
theorem KeepT.trans {a b c : World} (h : KeepT a b) (k : KeepT b c) : KeepT a c := ⟨Nat.le_trans h.1 k.1, fun i T cs h1 h2 hb => k.2 i T cs h1 h2 (h.2 i T cs h1 h2 hb)⟩
theorem KeepT.of_below {a b : World} (h : Below a.heap.size a b) : KeepT a b := ⟨h.size, fun _ _ _ _ _ hb => hb.as_was (h.block _ hb.lt)⟩
theorem Wrote.refl (g : Nat) (w : World) : Wrote g w w := ⟨Below.refl _ _, KeepT.refl _⟩
theorem Wrote.trans {g : Nat} {a b c : World} (h : Wrote g a b) (k : Wrote g b c) : Wrote g a c := ⟨h.1.trans k.1, h.2.trans k.2⟩
theorem Wrote.of_below {g : Nat} {a b : World} (hg : g ≤ a.heap.size) (h : Below a.heap.size a b) : Wrote g a b := ⟨h.mono hg, KeepT.of_below h⟩
theorem Wrote.alloc {g : Nat} {a b : World} (h : Wrote g a b) (hg : g ≤ b.heap.size) (o : Obj) : Wrote g a (b.alloc o) := h.trans (Wrote.of_below hg ((Below.refl _ _).alloc (Nat.le_refl _) o))
theorem WtIn.lt {g : Nat} {t : List UInt8} {br : Bool} {p : Option Addr} {w : World} (h : WtIn g t br p w) : g < w.heap.size := by
  obtain ⟨A, c, hb, _⟩ := h
  exact hb.lt
theorem WtAt.lt {g : Nat} {t : List UInt8} {br : Bool} {w : World} (h : WtAt g t br w) : g < w.heap.size := h.elim WtIn.lt WtIn.lt
theorem WtIn.below {g : Nat} {t : List UInt8} {br : Bool} {p : Option Addr} {w w' : World} (h : WtIn g t br p w) (hb : Below w.heap.size w w') : WtIn g t br p w' := by
  obtain ⟨A, c, hk, ho⟩ := h
  exact ⟨A, c, hk.as_was (hb.block _ hk.lt), own_below ho hb⟩
theorem WtAt.below {g : Nat} {t : List UInt8} {br : Bool} {w w' : World} (h : WtAt g t br w) (hb : Below w.heap.size w w') : WtAt g t br w' := h.imp (fun x => x.below hb) (fun x => x.below hb)

theorem wtBox {w : World} {g : Nat} {T : TypeId} {v0 v1 v2 : Value} (h : IsBlk w g T #[v0, v1, v2]) : w.cell? ⟨g, 0, none⟩ = some v0 ∧ w.cell? ⟨g, 1, none⟩ = some v1 ∧ w.cell? ⟨g, 2, none⟩ = some v2 ∧ g < w.heap.size ∧ w.shape? g = some (T, 3) := by
  have h0 := h.cell 0; have h1 := h.cell 1; have h2 := h.cell 2
  simp at h0 h1 h2
  exact ⟨h0, h1, h2, h.lt, by unfold IsBlk at h; simp [World.shape?, h]⟩
theorem keep_writer {w : World} {g : Nat} {cs : Array Value} {i : Nat} {u : Value} (h : IsBlk w g 70 cs) : KeepT w (w.setCell ⟨g, i, none⟩ u) :=
  ⟨by simp [World.setCell], fun b T c1 h1 _ hb => hb.elsewhere (fun e => h1 (by
    have e : b = g := e
    subst e
    unfold IsBlk at h hb
    rw [h] at hb
    injection hb with hb
    injection hb with _ h2
    exact h2.symm)) _⟩

theorem sizeBld : (Tryd.prog.info? 68).map (·.size) = some 2 := by kernel_rfl
theorem liesBld : liesAt Tryd.prog Tryd.prog.depth 70 (3 / Tryd.prog.cellsOf 70) 0 68 1 = true := by kernel_rfl
set_option maxHeartbeats 1000000 in
set_option maxRecDepth 100000 in
theorem copyCheck_any (g : Nat) (t : List UInt8) (br : Bool) (w : World) (h : WtAt g t br w) :
    Calls Tryd.prog 58 #[.pointer (some ⟨g, 0, none⟩)] w fun e w' => e = .returned (.tuple #[]) ∧ WtIn g t br (some ⟨g, 0, none⟩) w' ∧ Wrote g w w' := by
  obtain ⟨j, hj, hjs⟩ := Option.map_eq_some_iff.1 sizeBld
  rcases h with h | h
  · obtain ⟨A, c, hk, ho⟩ := h
    have Hk := Lib.hid hk
    have Ho := Lib.hid ho
    obtain ⟨c0, c1, c2, hlt, hsh⟩ := wtBox hk
    have hfz := hk.frozen 0
    have k1 := Lib.run_to_unsafe (P := Tryd.prog) (w := w) ⟨g, 0, none⟩ Tryd.underlying65 Tryd.underlying111 hj (by rw [hjs]; decide) hsh (by show 0 < 3; decide)
    have k2 : (callFunc 66 #[.pointer (some ⟨g, 0, none⟩)]).run Tryd.prog w = .ok (.value (.pointer (some ⟨g, 0, none⟩))) w := by
      rw [run_callFunc_extern Tryd.func66 (by kernel_rfl) (by kernel_rfl) (by kernel_rfl) (e := Extern.AbiNoEscape.same) (by kernel_rfl)]
      rfl
    have k3 := Lib.run_from_unsafe (P := Tryd.prog) (w := w) ⟨g, 0, none⟩ Tryd.underlying111 Tryd.underlying65 hj hsh liesBld
    clear hk ho hj hjs hsh
    go_enter Tryd.func58, Tryd.ntmps58
    go_wp2
    go_end0
    refine ⟨rfl, ⟨A, c, ?_, ?_⟩, (Below.refl _ _).setCell (p := ⟨g, 0, none⟩) (Nat.le_refl _) _, keep_writer Hk.out⟩
    · exact Hk.out.stored 0 _
    · exact own_but Ho.out ((But.refl (fun i => i = g) w).setCell (p := ⟨g, 0, none⟩) (.inl rfl) _) (fun i hi e => by
        subst e
        have := (Ho.out.lt i hi).1
        omega)
  · obtain ⟨A, c, hk, ho⟩ := h
    have Hk := Lib.hid hk
    have Ho := Lib.hid ho
    obtain ⟨c0, c1, c2, hlt, hsh⟩ := wtBox hk
    have k1 := Lib.run_neq_ptr_same (P := Tryd.prog) w ⟨g, 0, none⟩ Tryd.underlying65 hj
    clear hk ho hsh hj hjs
    go_enter Tryd.func58, Tryd.ntmps58
    go_wp2
    go_end0
    exact ⟨rfl, ⟨A, c, Hk.out, Ho.out⟩, Wrote.refl _ _⟩

theorem tyByte : (Tryd.prog.info? 5).map (fun i => (i.zero, i.size, i.bytes)) = some (some (.int .u8 0), 1, 1) := by kernel_rfl
theorem byteCells_app (a b : List UInt8) : Lib.byteCells (a ++ b) = Lib.byteCells a ++ Lib.byteCells b := by simp [Lib.byteCells]
set_option maxHeartbeats 2000000 in
set_option maxRecDepth 100000 in
theorem writeString_any (g : Nat) (t : List UInt8) (br : Bool) (s : ByteArray) (w : World) (h : WtAt g t br w) (hlen : t.length + s.size ≤ 1000000000) :
    Calls Tryd.prog 47 #[.pointer (some ⟨g, 0, none⟩), .string s] w fun e w' => e = .returned (.tuple #[.int .i64 s.size, .nilIface]) ∧ WtAt g (t ++ s.data.toList) br w' ∧ Wrote g w w' := by
  obtain ⟨i0, hi, hz0, hz1, hz2⟩ := info_parts tyByte
  have Hc := Lib.hid (copyCheck_any g t br w h)
  clear h
  go_enter Tryd.func47, Tryd.ntmps47
  go_wp2_with (go_at_call 58; refine Hc.out.mono ?_)
  rintro e w1 ⟨rfl, ⟨A, c, hk, ho⟩, hw1⟩
  obtain ⟨c0, c1, c2, hlt, _⟩ := wtBox hk
  have hf := hk.frozen 1
  have Hk := Lib.hid hk
  have Ho := Lib.hid ho
  have Hw := Lib.hid hw1
  clear hk hw1
  go_wp2_with (at_builtin; refine Lib.wpList_append_own_string _ rfl _ _ 66 9 rfl (g + 1) 5 i0 Tryd.underlying66 Tryd.underlying9 hi hz0 hz1 hz2 _ _ _ rfl ho s rfl ?c3 ?c4 ?c5 ?_)
  case c3 => unfold maxLen; omega
  case c4 => omega
  case c5 => omega
  intro v' w2 hown' hgrow _
  have hne : ∀ k, (Value.slice A t.length c).ownBlock = some k → g + 1 ≤ k := fun k hk => (Ho.out.lt k hk).1
  have hk2 := Hk.out.as_was (hgrow.block g hlt (fun e => by have := hne g e.symm; omega))
  obtain ⟨A', n', c', rfl⟩ : ∃ A' n' c', v' = .slice A' n' c' := by
    rcases hown'.2 with ⟨hv, _⟩ | ⟨_, _, _, hv, _⟩
    · exact ⟨_, _, _, hv⟩
    · exact ⟨_, _, _, hv⟩
  obtain ⟨d0, d1, d2, _, _⟩ := wtBox hk2
  have hf2 := hk2.frozen 1
  have Hk2 := Lib.hid hk2
  have Hown := Lib.hid hown'
  have Hgrow := Lib.hid hgrow
  have Hne := Lib.hid hne
  clear ho hk2 hown' hgrow hne
  go_wp2
  go_ret2
  have hk3 := Hk2.out.stored 1 (.slice A' n' c')
  have hst := (But.refl (fun i => i = g) w2).setCell (p := ⟨g, 1, none⟩) (.inl rfl) (.slice A' n' c')
  have hl : t.length + s.size = (t ++ s.data.toList).length := by rw [List.length_append]; rfl
  obtain ⟨A2, c2, hv2, _⟩ := ownsRow_form Hown.out
  injection hv2 with e1 e2 e3
  subst e1 e2 e3
  have hb2 : Below g w1 w2 := (Below.refl g w1).grown Hgrow.out (by omega) (fun k hk => by have := Hne.out k hk; omega)
  have hown3 : (w2.setCell ⟨g, 1, none⟩ (.slice A' (t.length + s.size) c')).ownsRow (g + 1) 5 1 (.slice A' (t.length + s.size) c') (t.length + s.size) (Lib.byteCells t ++ Lib.strCells s) := own_but Hown.out hst (fun i hi e => by
    subst e
    have := (Hown.out.lt i hi).1
    omega)
  refine ⟨rfl, .inr ⟨A', c', ?_, ?_⟩, Hw.out.1.trans (hb2.trans ((Below.refl g w2).setCell (p := ⟨g, 1, none⟩) (Nat.le_refl _) _)), Hw.out.2.trans ?_⟩
  · rw [← hl]; exact hk3
  · rw [← hl, byteCells_app]; exact hown3
  · refine KeepT.trans ⟨Hgrow.out.size, fun b T cs h1 h2 hb => hb.as_was (Hgrow.out.block b hb.lt fun e => ?_)⟩ (keep_writer Hk2.out)
    rcases Ho.out.2 with ⟨hv, _⟩ | ⟨k, cap, cur, hv, _, hk, _⟩
    · injection hv with e1
      subst e1
      cases e
    · injection hv with e1
      subst e1
      injection e with e
      subst e
      unfold IsBlk at hb
      rw [hk] at hb
      injection hb with hb
      injection hb with _ h3
      exact h2 h3.symm
end Go.Proofs.YthiimingnmbgmaaDoor
