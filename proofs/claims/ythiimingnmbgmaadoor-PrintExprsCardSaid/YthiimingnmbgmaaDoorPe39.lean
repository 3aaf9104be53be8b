/- Parts of this proof, one behind the other: PrtW, PrtX. -/
import Derived.Test.YthiimingnmbgmaaDoorPe38
import Derived.Deep.AppendSrc
import Derived.Laws.DeepStrings4
import Derived.Laws.IdiomStrings
namespace Go.Proofs.YthiimingnmbgmaaDoor
open Go.RowKit Go.Afx

theorem tyIntW : ElemTy Tryd.prog 26 3 1 8 (.int .i64 0) := ⟨Tryd.underlying26, by kernel_rfl, rfl, by decide⟩
def digC (l : List Nat) : List (List Value) := l.map fun (x : Nat) => [Value.int .i64 (x : Int)]
theorem digC_len {l : List Nat} : ∀ r ∈ digC l, r.length = 1 := by
  intro r hr
  obtain ⟨x, _, rfl⟩ := List.mem_map.1 hr
  rfl
theorem digC_flat (l : List Nat) : (digC l).flatten = l.map fun (x : Nat) => Value.int .i64 (x : Int) := by
  unfold digC
  induction l with
  | nil => rfl
  | cons a r ih => rw [List.map_cons, List.flatten_cons, ih]; rfl
theorem digC_app (l : List Nat) (m : Nat) : digC (l ++ [m % 10]) = digC l ++ [[.int .i64 ((m : Int) % 10)]] := by
  unfold digC
  rw [List.map_append]
  rfl
set_option maxRecDepth 10000 in
set_option maxHeartbeats 1000000 in
theorem of_any (N : Nat) (hN : N < 10 ^ 19) (w : World) : Calls Tryd.prog 40 #[.int .i64 N] w fun e w' => ∃ A c, e = .returned (.agg #[.bool false, .slice A (lowD N).length c]) ∧ w'.ownsRow (w.heap.size + 1) 3 1 (.slice A (lowD N).length c) (lowD N).length (digC (lowD N)).flatten ∧ Below w.heap.size w w' := by
  have hN2 : N < 10000000000000000000 := hN
  have Hlen := Lib.hid (lowD_len 19 N hN)
  have hd0 : decide ((N : Int) < 0) = false := by simp
  go_enter Tryd.func40, Tryd.ntmps40
  go_wp2
  go_loopw [3, 4] (fun u v wr => ∃ (m : Nat) (done : List Nat) (A : Option Addr) (c : Nat), m ≤ N ∧ u = .int .u64 m ∧ Hid (lowD N = done ++ lowD m) ∧ v = .slice A done.length c ∧ Hid (wr.ownsRow (w.heap.size + 1) 3 1 (.slice A done.length c) done.length (digC done).flatten) ∧ Hid (Below (w.heap.size + 1) (w.alloc (.cells #[.bool false, .slice none 0 0] 83)) wr)) (fun u _ _ => (intOf u).toNat)
  case atStart => exact ⟨N, [], none, 0, Nat.le_refl _, by first | rfl | go_num, Lib.hid rfl, rfl, Lib.hid (World.ownsRow_nil _ _ _ _), Lib.hid (Below.refl _ _)⟩
  case round =>
    obtain ⟨m, done, A, c, hm, rfl, HL, rfl, HO, HB⟩ := hrel
    have hsz := HB.out.size
    simp at hsz
    have hdl : done.length ≤ 19 := by have := Hlen.out; rw [HL.out, List.length_append] at this; omega
    rcases Nat.eq_zero_or_pos m with rfl | hp
    · have hdn : done = lowD N := by rw [HL.out, lowD_zero, List.append_nil]
      have hs : done.length = 0 ∨ ∃ b x, A = some ⟨b, 0, none⟩ ∧ 0 < done.length ∧ wr.cell? ⟨b, done.length - 1, none⟩ = some (.int .i64 x) ∧ x ≠ 0 ∧ b < wr.heap.size := by
        rcases Nat.eq_zero_or_pos done.length with hz | hz
        · exact .inl hz
        · rcases HO.out.2 with ⟨_, h⟩ | ⟨g, cap, cur, hv, _⟩
          · exact .inl h
          · injection hv with e1 e2 e3
            subst e1 e3
            have hN0 : 0 < N := by
              rcases Nat.eq_zero_or_pos N with h | h
              · rw [hdn, h, lowD_zero] at hz; simp at hz
              · exact h
            obtain ⟨x, hx, hx0⟩ := lowD_last 19 N hN hN0
            refine .inr ⟨g, (x : Int), rfl, hz, ?_, by omega, (HO.out.lt g rfl).2⟩
            rw [World.ownsRow.cellAt HO.out (done.length - 1) (by omega), digC_flat, List.getElem?_map]
            rw [← hdn, List.getLast?_eq_getElem?] at hx
            rw [hx]
            rfl
      have Hsg := Lib.hid (refSign_any A done.length c wr (by omega) hs)
      have hk : IsBlk wr w.heap.size 83 #[.bool false, .slice none 0 0] := (IsBlk.laid w _ _).as_was (HB.out.block w.heap.size (by omega))
      have Hk := Lib.hid hk
      have HN := Lib.hid hN
      have Hdn := Lib.hid hdn
      clear hs hsz hk hN hN2 hdn
      go_wp2_with (go_at_call 53; refine Hsg.out.mono ?_)
      rintro e w2 ⟨rfl, hb2⟩
      have hk2 := Hk.out.as_was (hb2.block _ Hk.out.lt)
      have z0 := hk2.cell 0
      have z1 := hk2.cell 1
      have f0 := hk2.frozen 0
      have f1 := hk2.frozen 1
      have zl := hk2.lt
      simp at z0 z1
      have Hb2 := Lib.hid hb2
      have Hk2 := Lib.hid hk2
      clear hb2 hk2
      go_wp2
      refine bodyPost_ret (v := .agg #[.bool false, .slice A done.length c]) (by simp [results, Tryd.results40, go_sem, z0, z1]) rfl ⟨A, c, by rw [← Hdn.out], ?_, ?_⟩
      · rw [← Hdn.out]
        refine own_but (own_below HO.out Hb2.out) (((But.refl (fun i => i = w.heap.size) w2).setCell (p := ⟨w.heap.size, 0, none⟩) (.inl rfl) _).setCell (p := ⟨w.heap.size, 1, none⟩) (.inl rfl) _) (fun i hi e => ?_)
        subst e
        have := (HO.out.lt _ hi).1
        omega
      · have h1 : Below w.heap.size w wr := ((Below.refl _ _).alloc (Nat.le_refl _) _).trans (HB.out.mono (by simp))
        exact ((h1.trans (Hb2.out.mono h1.size)).setCell (p := ⟨w.heap.size, 0, none⟩) (Nat.le_refl _) _).setCell (p := ⟨w.heap.size, 1, none⟩) (Nat.le_refl _) _
    · have hnew : RowsAt (wr.alloc (.cells #[.int .i64 ((m : Int) % 10)] 3)) 1 (some ⟨wr.heap.size, 0, none⟩) 1 1 [[.int .i64 ((m : Int) % 10)]] := RowsAt.lit' _ _ 1 (by rfl) rfl (by simp) rfl (by unfold maxLen; omega)
      have hown := own_below HO.out ((Below.refl wr.heap.size wr).alloc (Nat.le_refl _) (.cells #[.int .i64 ((m : Int) % 10)] 3))
      have e0 : decide ((0 : Int) < (m : Int)) = true := by simp; omega
      go_wp2_with (at_builtin; refine wpList_app (s := .tmp 13) (x := .tmp 17) (xs := digC done) rfl rfl tyIntW rfl hown rfl hnew (by intro r hr; simp at hr; subst hr; rfl) (by intro r hr u hu; simp at hr; subst hr; simp at hu; subst hu; rfl) ?_ ?_ ?_ ?_; (unfold maxLen; omega); omega; (simp; omega); intro A3 c3 w3 hown3 hbut3 hf3)
      go_roundw
      case rel =>
        refine ⟨m / 10, done ++ [m % 10], A3, c3, by omega, by go_num, Lib.hid (by rw [HL.out, lowD_pos hp]; simp), by simp, Lib.hid ?_, Lib.hid ?_⟩
        · rw [digC_app, List.length_append]
          exact hown3
        · refine HB.out.trans (((Below.refl _ _).alloc hsz _).trans (hbut3.below' (by simp; omega) fun i hi => ?_))
          cases A with
          | none => cases hi
          | some a => exact (HO.out.lt i hi).1
      case measure => simp [intOf]; omega
end Go.Proofs.YthiimingnmbgmaaDoor

namespace Go.Proofs.YthiimingnmbgmaaDoor
open Go.RowKit Go.Afx

theorem box2 {w : World} {g : Nat} {T : TypeId} {v0 v1 : Value} (h : IsBlk w g T #[v0, v1]) : w.cell? ⟨g, 0, none⟩ = some v0 ∧ w.cell? ⟨g, 1, none⟩ = some v1 ∧ g < w.heap.size := by
  have h0 := h.cell 0; have h1 := h.cell 1
  simp at h0 h1
  exact ⟨h0, h1, h.lt⟩
def digB (l : List Nat) : List UInt8 := (l.map fun x => UInt8.ofNat (48 + x)).reverse
theorem digB_succ {l : List Nat} {k : Nat} (h : k < l.length) : digB (l.take (k + 1)) = UInt8.ofNat (48 + l[k]'h) :: digB (l.take k) := by
  unfold digB
  rw [List.take_succ_eq_append_getElem h, List.map_append, List.reverse_append]
  rfl
theorem decS_low {N : Nat} (hN : N < 10 ^ 19) (h : 0 < N) : decS (N : Int) = digB (lowD N) := by
  unfold decS
  rw [if_neg (by omega)]
  exact digs_low 19 N hN
set_option maxRecDepth 10000 in
set_option maxHeartbeats 2000000 in
theorem refPrint_any (N : Nat) (hN : N < 10 ^ 19) (w : World) : Calls Tryd.prog 20 #[.int .i64 N] w fun e w' => e = .returned (.string ⟨(decS N).toArray⟩) ∧ Below w.heap.size w w' := by
  have Hof := Lib.hid (fun W => of_any N hN W)
  have Hlen := Lib.hid (lowD_len 19 N hN)
  rcases Nat.eq_zero_or_pos N with rfl | hp
  · rw [lowD_zero] at Hof
    have Hd := Lib.hid (show decS ((0 : Nat) : Int) = [48] from rfl)
    go_enter Tryd.func20, Tryd.ntmps20
    go_wp2_with (go_at_call 40; refine (Hof.out _).mono ?_)
    rintro e w2 ⟨A, c, rfl, _, hb2⟩
    have Hb2 := Lib.hid hb2
    clear hb2
    go_wp2
    go_ret
    rw [Hd.out]
    exact ⟨rfl, Hb2.out.alloc Hb2.out.size _⟩
  · have Hd := Lib.hid (decS_low hN hp)
    have Hdg := Lib.hid (lowD_digit 19 N hN)
    have hl0 : 0 < (lowD N).length := by rw [lowD_pos hp]; simp
    have Hp := Lib.hid hp
    clear hp hN
    generalize lowD N = L at *
    generalize decS (N : Int) = fin at *
    have hz : (((L.length : Nat) : Int) == 0) = false := by simp; intro h; rw [h] at hl0; simp at hl0
    have hl19 : L.length ≤ 19 := Hlen.out
    go_enter Tryd.func20, Tryd.ntmps20
    go_wp2_with (go_at_call 40; refine (Hof.out _).mono ?_)
    rintro e w2 ⟨A, c, rfl, hO, hb2⟩
    obtain ⟨w3, Hw3⟩ : ∃ w3, Hid (w3 = w2.alloc (.cells #[.bool false, .slice A L.length c] 83)) := ⟨_, rfl⟩
    have hb3 : Below w2.heap.size w2 w3 := by rw [Hw3.out]; exact (Below.refl _ _).alloc (Nat.le_refl _) _
    have hk3 : IsBlk w3 w2.heap.size 83 #[.bool false, .slice A L.length c] := by rw [Hw3.out]; exact IsBlk.laid _ _ _
    have Hall := Lib.hid (hb2.trans (hb3.mono hb2.size))
    have HO := Lib.hid (own_below hO hb3)
    have Hx := Lib.hid (fun W (hW : Below w3.heap.size w3 W) => box2 (hk3.as_was (hW.block _ hk3.lt)))
    obtain ⟨x0, x1, xl⟩ := Hx.out _ (Below.refl _ _)
    clear hb2 hb3 hk3 hO
    go_upto_region 2 with (fail)
    rw [← Hw3.out]
    go_wp2
    go_loopw [4, 5] (fun s i wr => ∃ (k : Nat) (S : ByteArray), k ≤ L.length ∧ i = .int .i64 k ∧ s = .string S ∧ Hid (S.data.toList = digB (L.take k)) ∧ S.size ≤ k ∧ Below w3.heap.size w3 wr) (fun _ i _ => L.length - (intOf i).toNat)
    case atStart => exact ⟨0, ⟨#[]⟩, Nat.zero_le _, rfl, rfl, Lib.hid (by simp [digB]), Nat.le_refl _, Below.refl _ _⟩
    case round =>
      obtain ⟨k, S, hk, rfl, rfl, HS, hS, hW⟩ := hrel
      obtain ⟨y0, y1, yl⟩ := Hx.out _ hW
      rcases Nat.lt_or_ge k L.length with hlt | hge
      · have hO2 := own_below HO.out hW
        have hdg : L[k]'hlt < 10 := Hdg.out _ (List.getElem_mem _)
        have Hsuc := Lib.hid (digB_succ hlt)
        have hgc : (digC L).flatten[k]? = some (.int .i64 ((L[k]'hlt : Nat) : Int)) := by rw [digC_flat, List.getElem?_map, List.getElem?_eq_getElem hlt]; rfl
        rcases hO2.2 with ⟨_, h0⟩ | ⟨g, cap, cur, hv, _⟩
        · rw [h0] at hlt; simp at hlt
        · injection hv with e1 e2 e3
          subst e1 e3
          have hcz := World.ownsRow.cellAt hO2 k (by omega)
          rw [hgc] at hcz
          generalize L[k]'hlt = x at *
          have hgl := (hO2.lt g rfl).2
          have n1 : ¬ 9223372036854775807 < 1 + S.size := by omega
          have HW := Lib.hid hW
          have hu : ((UInt8.ofNat (48 + x)).toNat : Int) = 48 + (x : Int) := by rw [UInt8.toNat_ofNat']; omega
          have hcv := run_convert_bytes_back (P := Tryd.prog) (wr.alloc (.cells #[.int .u8 (48 + (x : Int))] 5)) 66 9 5 ⟨wr.heap.size, 0, none⟩ 1 [UInt8.ofNat (48 + x)] Tryd.underlying66 Tryd.underlying5 Tryd.underlying9 (fun j hj => by
            obtain rfl : j = 0 := by simpa using hj
            have e : ((⟨wr.heap.size, 0, none⟩ : Addr).add 0) = ⟨wr.heap.size, 0, none⟩ := rfl
            rw [e, (IsBlk.laid _ _ _).cell]
            rw [List.getElem_cons_zero, hu]
            rfl)
          clear hu
          have eb : ([UInt8.ofNat (48 + x)] : List UInt8).toArray.size = 1 := rfl
          obtain ⟨D, hD⟩ : ∃ D : ByteArray, (⟨[UInt8.ofNat (48 + x)].toArray⟩ : ByteArray) = D := ⟨_, rfl⟩
          rw [hD, List.length_singleton] at hcv
          have hDs : D.size = 1 := by rw [← hD]; rfl
          have HD := Lib.hid hD
          have n1 : ¬ 9223372036854775807 < D.size + S.size := by omega
          clear hW hO2 hgc hD
          go_wp2
          go_roundw
          case rel =>
            refine ⟨k + 1, _, by omega, by go_num, rfl, Lib.hid ?_, by simp; omega, HW.out.alloc HW.out.size _⟩
            rw [Hsuc.out, ← HS.out, ByteArray.data_append, ← HD.out]
            simp
          case measure => simp [intOf]; omega
      · obtain rfl : k = L.length := Nat.le_antisymm hk hge
        have HW := Lib.hid (Hall.out.trans (hW.mono Hall.out.size))
        clear hW
        go_wp2
        go_ret
        refine ⟨ret_str ?_, HW.out⟩
        have h := HS.out
        rw [List.take_of_length_le (Nat.le_refl _)] at h
        rw [Hd.out]
        exact Array.ext' h
end Go.Proofs.YthiimingnmbgmaaDoor
