/- Syntax, part Y: what a procedure reads, writes, emits. -/
import Derived.Test.YtgihhkfppnhdpaaSynW
import Derived.Test.YtgihhkfppnhdpaaShelfZ
import Derived.Maps.OwnSet
namespace Go.Proofs.Ytgihhkfppnhdpaa
open Go.RowKit Go.Afx Go.Maps Go.WideMaps Go.Shelf Go.Sort

/-- a set's names, in order -/
def setL (L : List ByteArray) : List (List UInt8) := (strKeys (setOf (.lit (.bool true)) (L.map litS) : DataW Unit)).mergeSort fun x y => decide (x ≤ y)

theorem sortsZ (m : Nat) : AnyZ.SortsIn Try.prog Try.sortedZ_ren Fence.wide m :=
  ⟨fun blk off cap ss W hH hblk hsz => callsIn_wide.2 (AnyM.slices_Sort_string Try.sortS blk off cap ss W hH hblk hsz),
   fun p cap W => callsIn_wide.2 (AnyM.slices_Sort_string_none Try.sortS p cap W)⟩

theorem keys_any (b : Nat) (w : World) : Calls Try.prog 34 #[.map (some b)] w fun e w' => e = .returned (.func (.func 52) #[] #[.pointer (some ⟨w.heap.size, 0, none⟩)]) ∧ w' = w.alloc (.cells #[.map (some b)] 71) :=
  callsIn_wide.1 (AnyZ.keys_in Try.keysZ Fence.wide 5 trivial rfl (some b) w)

/-- a slice of the call's own, of these names -/
def OwnsN (w : World) (ns : List (List UInt8)) (e : Ending) (w' : World) : Prop :=
  ∃ A c, e = .returned (.slice A ns.length c) ∧ w'.ownsRow w.heap.size 9 1 (.slice A ns.length c) ns.length (ns.map encStr) ∧ Below w.heap.size w w'

theorem sortedKeys_any (b : Nat) (L : List ByteArray) (w : World) (h : UseAt w b L) (hL : L.length ≤ 1000000) :
    Calls Try.prog 33 #[.func (.func 52) #[] #[.pointer (some ⟨w.heap.size, 0, none⟩)]] (w.alloc (.cells #[.map (some b)] 71)) (OwnsN (w.alloc (.cells #[.map (some b)] 71)) (setL L)) := by
  have hown : w.ownsMap Try.prog 9 (plainElem (H := Unit) Try.prog 4) b L.length (setOf (.lit (.bool true)) (L.map litS)) := h
  have hsz := World.ownsMap.size_le hown
  have hbl := h.lt
  have hseq : SeqGives Fence.wide 2 Try.prog 52 #[.pointer (some ⟨w.heap.size, 0, none⟩)] encStr (fun ss => ss.Perm (strKeys (setOf (.lit (.bool true)) (L.map litS) : DataW Unit))) (Maps.size (setOf (.lit (.bool true)) (L.map litS) : DataW Unit)) (w.alloc (.cells #[.map (some b)] 71)) :=
    AnyZ.keys_gives (ρ := Try.keysZ_ren) { Try.keysZ with } Fence.wide _ trivial rfl (by omega) w.heap.size b L.length _ _ (by simp) (by simp) (UseAt.alloc h _)
  have cS := AnyZ.sorted_in Try.sortedZ Fence.wide 5 trivial trivial trivial trivial rfl (by omega) (sortsZ _) (enters_of Try.func51 (by kernel_rfl) rfl) 52 #[.pointer (some ⟨w.heap.size, 0, none⟩)] trivial (enters_of Try.func52 (by kernel_rfl) rfl) _ _ (by unfold maxLen; omega) (by omega) _ hseq
  refine (callsIn_wide.1 cS).mono ?_
  rintro e w' ⟨v, ss, rfl, hperm, hrow, hnil, hb⟩
  have hss : ss.mergeSort (fun x y => decide (x ≤ y)) = setL L := mergeSort_of_perm hperm
  have hlen : ss.length = (setL L).length := by rw [← hss, List.length_mergeSort]
  rw [hss, hlen] at hrow
  obtain ⟨A, c, rfl, _⟩ := ownsRow_form hrow
  exact ⟨A, c, rfl, hrow, hb⟩

set_option maxRecDepth 100000 in
set_option maxHeartbeats 1000000 in
theorem reads_any (F : Nat → Prop) (d : Nat) (p : Pr) (row : List Value) (w : World) (h : PrAt F d w row p) (hF : ∀ k, F k → k < w.heap.size) (hd : d ≤ 900) (hbig : p.params.length ≤ 1000000) (hL : (readsP d p).length ≤ 1000000) :
    Calls Try.prog 13 #[.agg row.toArray] w (OwnsN w (setL (readsP d p))) := by
  have hfd : ∀ (m1 m2 m3 : Nat) (W : World), (Instr.field 73 (.agg #[.map (some m1), .map (some m2), .map (some m3)]) 0).run Try.prog W = .ok (.map (some m1)) W := fun _ _ _ _ => by kernel_rfl
  have hb1 : ∀ o, Below w.heap.size w (w.alloc o) := fun o => (Below.refl _ _).alloc (Nat.le_refl _) o
  have Hu := Lib.hid (fun W (hW : Below w.heap.size w W) => used_any F d p row W (h.below hW) (fun k hk => Nat.lt_of_lt_of_le (hF k hk) hW.size) hd hbig)
  obtain ⟨okn, oks, okp, _, Ap, np, cp, Ab, nb, cb, rfl, hpl, hbl⟩ := h
  generalize readsP d p = R at *
  generalize writesP d p = Wr at *
  generalize emitsP d p = Em at *
  clear hpl hbl
  go_enter Try.func13, Try.ntmps13
  go_wp2_with (first | (go_at_call 35; refine (Hu.out _ (hb1 _)).mono ?_; rintro x w1 ⟨b1, b2, b3, rfl, hS, hb⟩; have HK := Lib.hid (sortedKeys_any _ _ w1 hS.one hL)) | (go_at_call 34; refine (keys_any _ _).mono ?_; rintro x w2 ⟨rfl, rfl⟩) | (go_at_call 33; refine HK.out.mono ?_; rintro x w3 ⟨A, c, rfl, hown, hb3⟩))
  go_ret
  have hz := hb.size
  simp at hz
  exact ⟨A, c, rfl, own_base hown (by simp; omega), ((hb1 _).trans (hb.mono (by simp))).trans (((Below.refl _ w1).alloc (Nat.le_refl _) _).trans (hb3.mono (by simp)) |>.mono (by omega))⟩

set_option maxRecDepth 100000 in
set_option maxHeartbeats 1000000 in
theorem writes_any (F : Nat → Prop) (d : Nat) (p : Pr) (row : List Value) (w : World) (h : PrAt F d w row p) (hF : ∀ k, F k → k < w.heap.size) (hd : d ≤ 900) (hbig : p.params.length ≤ 1000000) (hL : (writesP d p).length ≤ 1000000) :
    Calls Try.prog 18 #[.agg row.toArray] w (OwnsN w (setL (writesP d p))) := by
  have hfd : ∀ (m1 m2 m3 : Nat) (W : World), (Instr.field 73 (.agg #[.map (some m1), .map (some m2), .map (some m3)]) 1).run Try.prog W = .ok (.map (some m2)) W := fun _ _ _ _ => by kernel_rfl
  have hb1 : ∀ o, Below w.heap.size w (w.alloc o) := fun o => (Below.refl _ _).alloc (Nat.le_refl _) o
  have Hu := Lib.hid (fun W (hW : Below w.heap.size w W) => used_any F d p row W (h.below hW) (fun k hk => Nat.lt_of_lt_of_le (hF k hk) hW.size) hd hbig)
  obtain ⟨okn, oks, okp, _, Ap, np, cp, Ab, nb, cb, rfl, hpl, hbl⟩ := h
  generalize readsP d p = R at *
  generalize writesP d p = Wr at *
  generalize emitsP d p = Em at *
  clear hpl hbl
  go_enter Try.func18, Try.ntmps18
  go_wp2_with (first | (go_at_call 35; refine (Hu.out _ (hb1 _)).mono ?_; rintro x w1 ⟨b1, b2, b3, rfl, hS, hb⟩; have HK := Lib.hid (sortedKeys_any _ _ w1 hS.two hL)) | (go_at_call 34; refine (keys_any _ _).mono ?_; rintro x w2 ⟨rfl, rfl⟩) | (go_at_call 33; refine HK.out.mono ?_; rintro x w3 ⟨A, c, rfl, hown, hb3⟩))
  go_ret
  have hz := hb.size
  simp at hz
  exact ⟨A, c, rfl, own_base hown (by simp; omega), ((hb1 _).trans (hb.mono (by simp))).trans (((Below.refl _ w1).alloc (Nat.le_refl _) _).trans (hb3.mono (by simp)) |>.mono (by omega))⟩

set_option maxRecDepth 100000 in
set_option maxHeartbeats 1000000 in
theorem emits_any (F : Nat → Prop) (d : Nat) (p : Pr) (row : List Value) (w : World) (h : PrAt F d w row p) (hF : ∀ k, F k → k < w.heap.size) (hd : d ≤ 900) (hbig : p.params.length ≤ 1000000) (hL : (emitsP d p).length ≤ 1000000) :
    Calls Try.prog 19 #[.agg row.toArray] w (OwnsN w (setL (emitsP d p))) := by
  have hfd : ∀ (m1 m2 m3 : Nat) (W : World), (Instr.field 73 (.agg #[.map (some m1), .map (some m2), .map (some m3)]) 2).run Try.prog W = .ok (.map (some m3)) W := fun _ _ _ _ => by kernel_rfl
  have hb1 : ∀ o, Below w.heap.size w (w.alloc o) := fun o => (Below.refl _ _).alloc (Nat.le_refl _) o
  have Hu := Lib.hid (fun W (hW : Below w.heap.size w W) => used_any F d p row W (h.below hW) (fun k hk => Nat.lt_of_lt_of_le (hF k hk) hW.size) hd hbig)
  obtain ⟨okn, oks, okp, _, Ap, np, cp, Ab, nb, cb, rfl, hpl, hbl⟩ := h
  generalize readsP d p = R at *
  generalize writesP d p = Wr at *
  generalize emitsP d p = Em at *
  clear hpl hbl
  go_enter Try.func19, Try.ntmps19
  go_wp2_with (first | (go_at_call 35; refine (Hu.out _ (hb1 _)).mono ?_; rintro x w1 ⟨b1, b2, b3, rfl, hS, hb⟩; have HK := Lib.hid (sortedKeys_any _ _ w1 hS.three hL)) | (go_at_call 34; refine (keys_any _ _).mono ?_; rintro x w2 ⟨rfl, rfl⟩) | (go_at_call 33; refine HK.out.mono ?_; rintro x w3 ⟨A, c, rfl, hown, hb3⟩))
  go_ret
  have hz := hb.size
  simp at hz
  exact ⟨A, c, rfl, own_base hown (by simp; omega), ((hb1 _).trans (hb.mono (by simp))).trans (((Below.refl _ w1).alloc (Nat.le_refl _) _).trans (hb3.mono (by simp)) |>.mono (by omega))⟩
end Go.Proofs.Ytgihhkfppnhdpaa
