/- Lock, part J: who is ready; New; the lists of ids. -/
import Derived.Test.YtinpihplkikldaaLockI
namespace Go.Proofs.Ytinpihplkikldaa
open Go.RowKit Go.Afx

/-- does the ask at k keep the one at i from holding -/
def blk1 (i : Nat) (a : AskD) (x : AskD × Nat) : Bool := decide (x.2 ≠ i) && (x.1.held || decide (x.2 < i)) && clashL a.ws x.1.ws
def blockedT (T : List AskD) (i : Nat) (a : AskD) : Bool := T.zipIdx.any (blk1 i a)
def readyT (T : List AskD) (i : Nat) : Bool := match T[i]? with | some a => !blockedT T i a && !a.held | none => false

theorem zip_get {T : List AskD} {k : Nat} {a : AskD} (h : T[k]? = some a) : T.zipIdx[k]? = some (a, k) := by simp [List.getElem?_zipIdx, h]

set_option maxRecDepth 100000 in
set_option maxHeartbeats 1000000 in
theorem ready_any (base p : Nat) (A : Option Addr) (n c : Nat) (T : List AskD) (rows) (i : Nat) (hi : i < n) (w : World) (hT : TblAt w base p A n c T rows) :
    Calls Try.prog 72 #[.pointer (some ⟨p, 0, none⟩), .int .i64 i] w fun e w' => e = .returned (.bool (readyT T i)) ∧ Below w.heap.size w w' := by
  have hn := hT.n_le
  have hcp := hT.cell
  have hltp := hT.blk.lt
  obtain ⟨g, Ai, ci, a, hA, hbg, hgl, hgp, hTi, hi0, hi1, hi2, hwi, hsti, h1000, hfz, hrow, hap⟩ := hT.get hi
  subst hA
  have HTi := Lib.hid hTi; clear hTi
  have lT := Lib.hid hT.lenT
  obtain ⟨w2, Hw2⟩ : ∃ w2, Hid (w2 = w.alloc (.cells #[.slice Ai a.ws.length ci, .int .i64 a.id, .bool a.held] 113)) := ⟨_, rfl⟩
  have hb2 : Below w.heap.size w w2 := by rw [Hw2.out]; exact (Below.refl _ _).alloc (Nat.le_refl _) _
  have hz2 : w.heap.size < w2.heap.size := by rw [Hw2.out]; simp
  have hx0 : w2.cell? ⟨w.heap.size, 0, none⟩ = some (.slice Ai a.ws.length ci) := by rw [Hw2.out]; simp [go_sem]
  have hx2 : w2.cell? ⟨w.heap.size, 2, none⟩ = some (.bool a.held) := by rw [Hw2.out]; simp [go_sem]
  have hT2 := hT.below hb2
  have hcp2 := hT2.cell
  go_enter Try.func72, Try.ntmps72
  go_wp2
  rw [← Hw2.out]
  go_loopw [20] (fun k wr => ∃ x : Nat, x ≤ n ∧ k = .int .i64 x ∧ (T.zipIdx.take x).any (blk1 i a) = false ∧ Below w2.heap.size w2 wr) (fun k _ => n - (intOf k).toNat)
  case atStart => exact ⟨0, Nat.zero_le _, rfl, by simp, Below.refl _ _⟩
  case round =>
    obtain ⟨x, hx, rfl, hcl, hb⟩ := hrel
    have Hcl := Lib.hid hcl; clear hcl
    have hd0 : wr.cell? ⟨w.heap.size, 0, none⟩ = some (.slice Ai a.ws.length ci) := (hb.cell (p := ⟨w.heap.size, 0, none⟩) hz2).trans hx0
    have hd2 : wr.cell? ⟨w.heap.size, 2, none⟩ = some (.bool a.held) := (hb.cell (p := ⟨w.heap.size, 2, none⟩) hz2).trans hx2
    have hsz := hb.size
    have hlt1 : w.heap.size < wr.heap.size := by omega
    by_cases hlt : x < n
    · obtain ⟨g', Ak, ck, b, hA', hbg', hgl', hgp', hTk, hc0, hc1, hc2, hwk, hstk, h1000k, hfzk, hrowk, hapk⟩ := (hT2.below hb).get hlt
      simp only [Option.some.injEq, Addr.mk.injEq, and_true] at hA'
      subst hA'
      have HTk := Lib.hid hTk; clear hTk
      clear hrowk
      generalize hv : b.held = bh at *
      have Hv := Lib.hid hv; clear hv
      have Hnx : Hid ((T.zipIdx.take (x + 1)).any (blk1 i a) = blk1 i a (b, x)) := Lib.hid (by rw [any_take_succ _ (zip_get HTk.out), Hcl.out, Bool.false_or])
      have hbw : Below w.heap.size w wr := hb2.trans (hb.mono (by omega))
      have hwi2 := (hwi.below hbw)
      have hbn : Below wr.heap.size wr (wr.alloc (.cells #[.slice Ak b.ws.length ck, .int .i64 b.id, .bool bh] 113)) := (Below.refl _ _).alloc (Nat.le_refl _) _
      have hwi3 := hwi2.below hbn
      have hwk3 := hwk.below hbn
      have Hyes : Hid (clashL a.ws b.ws = true → x ≠ i → (bh || decide (x < i)) = true → readyT T i = false) := Lib.hid (fun h1 h2 h3 => by
        unfold readyT blockedT
        rw [HTi.out]
        simp only
        rw [any_of_get (blk1 i a) (zip_get HTk.out) (by rw [blk1, Hv.out]; simp [h1, h2, h3])]; rfl)
      by_cases hxi : x = i
      · have hne : ((x : Int) != (i : Int)) = false := by simp [hxi]
        have Hf : Hid (blk1 i a (b, x) = false) := Lib.hid (by simp [blk1, hxi])
        clear hxi
        go_wp2
        go_roundw
        case rel => exact ⟨x + 1, by omega, by go_num, by rw [Hnx.out, Hf.out], hb.trans (hbn.mono hsz)⟩
        case measure => simp [intOf]; omega
      · have hne : ((x : Int) != (i : Int)) = true := by simp; omega
        have Hxi : Hid (x ≠ i) := Lib.hid hxi
        clear hxi
        cases bh
        · by_cases hxlt : x < i
          · have hdec : (false || decide (x < i)) = true := by simp [hxlt]
            by_cases hcw : clashL a.ws b.ws = true
            · have Hr := Lib.hid (Hyes.out hcw Hxi.out hdec)
              have hcall := clashM_any Ai Ak _ ci _ ck a.ws b.ws hsti hstk _ hwi3 hwk3
              rw [hcw] at hcall
              have Hcall := Lib.hid hcall
              clear hcw hcall hdec
              go_wp2_with (go_at_call 100; refine Hcall.out.mono ?_; rintro e w' ⟨rfl, hb1⟩)
              go_ret
              exact ⟨ret_bool Hr.out.symm, hbw.trans ((hbn.trans (hb1.mono (by simp))).mono (by omega))⟩
            · have hcw : clashL a.ws b.ws = false := by simpa using hcw
              have Hf : Hid (blk1 i a (b, x) = false) := Lib.hid (by simp [blk1, hcw])
              have hcall := clashM_any Ai Ak _ ci _ ck a.ws b.ws hsti hstk _ hwi3 hwk3
              rw [hcw] at hcall
              have Hcall := Lib.hid hcall
              clear hcw hcall hdec
              go_wp2_with (go_at_call 100; refine Hcall.out.mono ?_; rintro e w' ⟨rfl, hb1⟩)
              go_roundw
              case rel => exact ⟨x + 1, by omega, by go_num, by rw [Hnx.out, Hf.out], hb.trans ((hbn.trans (hb1.mono (by simp))).mono hsz)⟩
              case measure => simp [intOf]; omega
          · have Hf : Hid (blk1 i a (b, x) = false) := Lib.hid (by rw [blk1, Hv.out]; simp [hxlt])
            go_wp2
            go_roundw
            case rel => exact ⟨x + 1, by omega, by go_num, by rw [Hnx.out, Hf.out], hb.trans (hbn.mono hsz)⟩
            case measure => simp [intOf]; omega
        · have hdec : (true || decide (x < i)) = true := by simp
          by_cases hcw : clashL a.ws b.ws = true
          · have Hr := Lib.hid (Hyes.out hcw Hxi.out hdec)
            have hcall := clashM_any Ai Ak _ ci _ ck a.ws b.ws hsti hstk _ hwi3 hwk3
            rw [hcw] at hcall
            have Hcall := Lib.hid hcall
            clear hcw hcall hdec
            go_wp2_with (go_at_call 100; refine Hcall.out.mono ?_; rintro e w' ⟨rfl, hb1⟩)
            go_ret
            exact ⟨ret_bool Hr.out.symm, hbw.trans ((hbn.trans (hb1.mono (by simp))).mono (by omega))⟩
          · have hcw : clashL a.ws b.ws = false := by simpa using hcw
            have Hf : Hid (blk1 i a (b, x) = false) := Lib.hid (by simp [blk1, hcw])
            have hcall := clashM_any Ai Ak _ ci _ ck a.ws b.ws hsti hstk _ hwi3 hwk3
            rw [hcw] at hcall
            have Hcall := Lib.hid hcall
            clear hcw hcall hdec
            go_wp2_with (go_at_call 100; refine Hcall.out.mono ?_; rintro e w' ⟨rfl, hb1⟩)
            go_roundw
            case rel => exact ⟨x + 1, by omega, by go_num, by rw [Hnx.out, Hf.out], hb.trans ((hbn.trans (hb1.mono (by simp))).mono hsz)⟩
            case measure => simp [intOf]; omega
    · go_wp2
      go_ret
      refine ⟨ret_bool ?_, hb2.trans (hb.mono (by omega))⟩
      have h1 := Hcl.out
      rw [List.take_of_length_le (by rw [List.length_zipIdx, lT.out]; omega)] at h1
      unfold readyT blockedT
      rw [HTi.out]
      simp only
      rw [h1]
      cases a.held <;> rfl

theorem new_any (w : World) : Calls Try.prog 30 #[] w fun e w' => e = .returned (.pointer (some ⟨w.heap.size, 0, none⟩)) ∧ w' = w.alloc (.cells #[.slice none 0 0] 104) := by
  go_enter Try.func30, Try.ntmps30
  go_wp2
  go_ret
  exact ⟨rfl, rfl⟩

theorem TblAt.new (w : World) (base : Nat) (hb : base ≤ w.heap.size) : TblAt (w.alloc (.cells #[.slice none 0 0] 104)) base w.heap.size none 0 0 [] [] where
  blk := IsBlk.laid w _ _
  hp := hb
  own := World.ownsRow_nil _ _ _ _
  lenT := rfl
  lenR := rfl
  apart := fun a h => by cases h
  at_ := fun k a h => by simp at h

/-- a closure over a table: asked for a place it says pr of it -/
def Asks (n : Nat) (f : FuncId) (q : Nat) (w : World) (pr : Nat → Bool) : Prop :=
  ∀ (W : World) (k : Nat), k < n → Below w.heap.size w W → Calls Try.prog f #[.int .i64 k, .pointer (some ⟨q, 0, none⟩)] W fun e w' => e = .returned (.bool (pr k)) ∧ Below W.heap.size W w'

theorem readyC_any (base p : Nat) (A : Option Addr) (n c : Nat) (T : List AskD) (rows) (q : Nat) (w : World) (hT : TblAt w base p A n c T rows) (hq : w.cell? ⟨q, 0, none⟩ = some (.pointer (some ⟨p, 0, none⟩))) :
    Asks n 71 q w (readyT T) := by
  intro W k hk hb
  have hT' := hT.below hb
  have hq' : W.cell? ⟨q, 0, none⟩ = some (.pointer (some ⟨p, 0, none⟩)) := (hb.cell (p := ⟨q, 0, none⟩) (World.block_lt_of_cell? w _ hq)).trans hq
  go_enter Try.func71, Try.ntmps71
  go_wp2_with (go_at_call 72; refine (ready_any base p A n c T rows k hk _ hT').mono ?_; rintro e w' ⟨rfl, hb1⟩)
  go_ret
  exact ⟨rfl, hb1⟩

def heldT (T : List AskD) (k : Nat) : Bool := match T[k]? with | some a => a.held | none => false

theorem waitC_any (base p : Nat) (A : Option Addr) (n c : Nat) (T : List AskD) (rows) (q : Nat) (w : World) (hT : TblAt w base p A n c T rows) (hq : w.cell? ⟨q, 0, none⟩ = some (.pointer (some ⟨p, 0, none⟩))) :
    Asks n 70 q w (fun k => !heldT T k) := by
  intro W k hk hb
  have hT' := hT.below hb
  have hcp := hT'.cell
  have hq' : W.cell? ⟨q, 0, none⟩ = some (.pointer (some ⟨p, 0, none⟩)) := (hb.cell (p := ⟨q, 0, none⟩) (World.block_lt_of_cell? w _ hq)).trans hq
  obtain ⟨g, Ai, ci, a, rfl, hbg, hgl, hgp, hTi, hi0, hi1, hi2, hwi, hsti, h1000, hfz, hrow, hap⟩ := hT'.get hk
  have hn := hT.n_le
  have Hh : Hid (heldT T k = a.held) := Lib.hid (by simp [heldT, hTi])
  clear hTi
  go_enter Try.func70, Try.ntmps70
  go_wp2
  go_ret
  exact ⟨ret_bool (by rw [Hh.out]), Below.refl _ _⟩

theorem holdC_any (base p : Nat) (A : Option Addr) (n c : Nat) (T : List AskD) (rows) (q : Nat) (w : World) (hT : TblAt w base p A n c T rows) (hq : w.cell? ⟨q, 0, none⟩ = some (.pointer (some ⟨p, 0, none⟩))) :
    Asks n 66 q w (heldT T) := by
  intro W k hk hb
  have hT' := hT.below hb
  have hcp := hT'.cell
  have hq' : W.cell? ⟨q, 0, none⟩ = some (.pointer (some ⟨p, 0, none⟩)) := (hb.cell (p := ⟨q, 0, none⟩) (World.block_lt_of_cell? w _ hq)).trans hq
  obtain ⟨g, Ai, ci, a, rfl, hbg, hgl, hgp, hTi, hi0, hi1, hi2, hwi, hsti, h1000, hfz, hrow, hap⟩ := hT'.get hk
  have hn := hT.n_le
  have Hh : Hid (heldT T k = a.held) := Lib.hid (by simp [heldT, hTi])
  clear hTi
  go_enter Try.func66, Try.ntmps66
  go_wp2
  go_ret
  exact ⟨ret_bool (by rw [Hh.out]), Below.refl _ _⟩

theorem tyInt : ElemTy Try.prog 24 3 1 8 (.int .i64 0) := ⟨Try.underlying24, by kernel_rfl, rfl, by decide⟩

def irow (x : Int) : List Value := [.int .i64 x]
theorem irow_len : ∀ {xs : List Int} (r : List Value), r ∈ xs.map irow → r.length = 1 := by
  intro xs r hr; obtain ⟨p, _, rfl⟩ := List.mem_map.1 hr; rfl
theorem irow_one : ∀ {xs : List Int} (r : List Value), r ∈ xs.map irow → ∀ u ∈ r, u.oneCell' = true := by
  intro xs r hr u hu
  obtain ⟨p, _, rfl⟩ := List.mem_map.1 hr
  simp only [irow, List.mem_singleton] at hu
  subst hu; rfl

/-- a slice of the call's own, of these numbers -/
def OwnsI (w : World) (xs : List Int) (e : Ending) (w' : World) : Prop :=
  ∃ A c, e = .returned (.slice A xs.length c) ∧ w'.ownsRow w.heap.size 3 1 (.slice A xs.length c) xs.length (xs.map irow).flatten ∧ Below w.heap.size w w'

/-- the ids of those places of which pr says yes -/
def idsT (T : List AskD) (pr : Nat → Bool) : List Int := (T.zipIdx.filter fun x => pr x.2).map fun x => x.1.id

set_option maxRecDepth 100000 in
set_option maxHeartbeats 1000000 in
theorem ids_ready (base p : Nat) (A : Option Addr) (n c : Nat) (T : List AskD) (rows) (q : Nat) (pr : Nat → Bool) (hbig : n ≤ 100000) (w : World) (hT : TblAt w base p A n c T rows) (hf : Asks n 71 q w pr) :
    Calls Try.prog 65 #[.pointer (some ⟨p, 0, none⟩), .func (.func 71) #[] #[.pointer (some ⟨q, 0, none⟩)]] w (OwnsI w (idsT T pr)) := by
  have hn := hT.n_le
  have hcp := hT.cell
  have lT := Lib.hid hT.lenT
  have Hf := Lib.hid hf; clear hf
  go_enter Try.func65, Try.ntmps65
  go_wp2
  go_loopw [5, 15] (fun v i wr => ∃ (x : Nat) (xs : List Int) (A2 : Option Addr) (c2 : Nat), x ≤ n ∧ i = .int .i64 x ∧ v = .slice A2 xs.length c2 ∧ xs = ((T.zipIdx.take x).filter fun y => pr y.2).map (fun y => y.1.id) ∧ xs.length ≤ x ∧ wr.ownsRow w.heap.size 3 1 (.slice A2 xs.length c2) xs.length (xs.map irow).flatten ∧ Below w.heap.size w wr) (fun _ i _ => n - (intOf i).toNat)
  case atStart => exact ⟨0, [], none, 0, Nat.zero_le _, rfl, rfl, rfl, Nat.le_refl _, World.ownsRow_nil _ _ _ _, Below.refl _ _⟩
  case round =>
    obtain ⟨x, xs, A2, c2, hx, rfl, rfl, hxs, hlen, hown, hb⟩ := hrel
    have Hxs := Lib.hid hxs; clear hxs
    by_cases hlt : x < n
    · obtain ⟨g, Ak, ck, a, hA, hbg, hgl, hgp, hTk, hc0, hc1, hc2, hwk, hstk, h1000k, hfzk, hrowk, hapk⟩ := (hT.below hb).get hlt
      subst hA
      clear hrowk
      have HTk := Lib.hid hTk; clear hTk
      have hsz := hb.size
      have hbn : Below wr.heap.size wr (wr.alloc (.cells #[.slice Ak a.ws.length ck, .int .i64 a.id, .bool a.held] 113)) := (Below.refl _ _).alloc (Nat.le_refl _) _
      have hbw := hb.trans (hbn.mono hsz)
      have hcall := Hf.out _ x hlt hbw
      obtain ⟨m, Hm⟩ : ∃ m, Hid (xs.length = m) := ⟨_, rfl⟩
      rw [Hm.out] at hlen hown
      rw [Hm.out]
      by_cases hpr : pr x = true
      · have Hn : Hid (((T.zipIdx.take (x + 1)).filter fun y => pr y.2).map (fun y => y.1.id) = xs ++ [a.id]) := Lib.hid (by rw [take_succ_of (zip_get HTk.out), List.filter_append, List.map_append, ← Hxs.out]; simp [hpr])
        rw [hpr] at hcall
        have Hcall := Lib.hid hcall; clear hcall hpr
        go_wp2_with (first | (go_at_call 71; refine Hcall.out.mono ?_; rintro e w1 ⟨rfl, hb1⟩; have hz1 := hb1.size; have hown1 := own_below (hown.alloc (.cells #[.slice Ak a.ws.length ck, .int .i64 a.id, .bool a.held] 113)) hb1; (have hi1 : w1.cell? ⟨wr.heap.size, 1, none⟩ = some (.int .i64 a.id) := (hb1.cell (p := ⟨wr.heap.size, 1, none⟩) (by simp)).trans (by simp [go_sem])); have hown2 : (w1.alloc (.cells #[.int .i64 a.id] 3)).ownsRow w.heap.size 3 1 (.slice A2 m c2) m (xs.map irow).flatten := hown1.alloc _; (have hnew : RowsAt (w1.alloc (.cells #[.int .i64 a.id] 3)) 1 (some ⟨w1.heap.size, 0, none⟩) 1 1 ([a.id].map irow) := RowsAt.lit _ _ 1 rfl irow_len rfl (by unfold maxLen; omega)); (have hz2 : w.heap.size ≤ w1.heap.size := by simp at hz1; omega); (have hbw1 : Below w.heap.size w w1 := hbw.trans (hb1.mono (by simp; omega))); clear hz1) | (at_builtin; refine wpList_app rfl rfl tyInt rfl hown2 rfl hnew irow_len irow_one ?_ ?_ ?_ ?_; (unfold maxLen; omega); omega; (simp; omega); intro A3 c3 w3 hown3 hbut3 hf3))
        go_roundw
        case rel =>
          rw [← List.map_append] at hown3
          refine ⟨x + 1, xs ++ [a.id], A3, c3, by omega, by go_num, by rw [List.length_append, Hm.out]; rfl, Hn.out.symm, by rw [List.length_append, Hm.out]; simp; omega, by rw [List.length_append, Hm.out]; exact hown3, ?_⟩
          exact (hbw1.alloc hz2 _).trans (hbut3.below' (by simp; omega) (fun i hi => by
            cases A2 with
            | none => cases hi
            | some a2 => have h := hown2.lt a2.block rfl; simp at hi; omega))
        case measure => simp [intOf]; omega
      · have hpr : pr x = false := by simpa using hpr
        have Hn : Hid (((T.zipIdx.take (x + 1)).filter fun y => pr y.2).map (fun y => y.1.id) = xs) := Lib.hid (by rw [take_succ_of (zip_get HTk.out), List.filter_append, List.map_append, ← Hxs.out]; simp [hpr])
        rw [hpr] at hcall
        have Hcall := Lib.hid hcall; clear hcall hpr
        go_wp2_with (go_at_call 71; refine Hcall.out.mono ?_; rintro e w1 ⟨rfl, hb1⟩)
        have hown1 := own_below (hown.alloc (.cells #[.slice Ak a.ws.length ck, .int .i64 a.id, .bool a.held] 113)) hb1
        go_wp2
        go_roundw
        case rel => exact ⟨x + 1, xs, A2, c2, by omega, by go_num, by rw [Hm.out], Hn.out.symm, by rw [Hm.out]; omega, by rw [Hm.out]; exact hown1, hbw.trans (hb1.mono (by simp; omega))⟩
        case measure => simp [intOf]; omega
    · go_wp2
      go_ret
      obtain rfl : x = n := by omega
      have hfin : xs = idsT T pr := by rw [Hxs.out, List.take_of_length_le (by rw [List.length_zipIdx, lT.out]; omega)]; rfl
      subst hfin
      exact ⟨A2, c2, rfl, hown, hb⟩

set_option maxRecDepth 100000 in
set_option maxHeartbeats 1000000 in
theorem ids_wait (base p : Nat) (A : Option Addr) (n c : Nat) (T : List AskD) (rows) (q : Nat) (pr : Nat → Bool) (hbig : n ≤ 100000) (w : World) (hT : TblAt w base p A n c T rows) (hf : Asks n 70 q w pr) :
    Calls Try.prog 65 #[.pointer (some ⟨p, 0, none⟩), .func (.func 70) #[] #[.pointer (some ⟨q, 0, none⟩)]] w (OwnsI w (idsT T pr)) := by
  have hn := hT.n_le
  have hcp := hT.cell
  have lT := Lib.hid hT.lenT
  have Hf := Lib.hid hf; clear hf
  go_enter Try.func65, Try.ntmps65
  go_wp2
  go_loopw [5, 15] (fun v i wr => ∃ (x : Nat) (xs : List Int) (A2 : Option Addr) (c2 : Nat), x ≤ n ∧ i = .int .i64 x ∧ v = .slice A2 xs.length c2 ∧ xs = ((T.zipIdx.take x).filter fun y => pr y.2).map (fun y => y.1.id) ∧ xs.length ≤ x ∧ wr.ownsRow w.heap.size 3 1 (.slice A2 xs.length c2) xs.length (xs.map irow).flatten ∧ Below w.heap.size w wr) (fun _ i _ => n - (intOf i).toNat)
  case atStart => exact ⟨0, [], none, 0, Nat.zero_le _, rfl, rfl, rfl, Nat.le_refl _, World.ownsRow_nil _ _ _ _, Below.refl _ _⟩
  case round =>
    obtain ⟨x, xs, A2, c2, hx, rfl, rfl, hxs, hlen, hown, hb⟩ := hrel
    have Hxs := Lib.hid hxs; clear hxs
    by_cases hlt : x < n
    · obtain ⟨g, Ak, ck, a, hA, hbg, hgl, hgp, hTk, hc0, hc1, hc2, hwk, hstk, h1000k, hfzk, hrowk, hapk⟩ := (hT.below hb).get hlt
      subst hA
      clear hrowk
      have HTk := Lib.hid hTk; clear hTk
      have hsz := hb.size
      have hbn : Below wr.heap.size wr (wr.alloc (.cells #[.slice Ak a.ws.length ck, .int .i64 a.id, .bool a.held] 113)) := (Below.refl _ _).alloc (Nat.le_refl _) _
      have hbw := hb.trans (hbn.mono hsz)
      have hcall := Hf.out _ x hlt hbw
      obtain ⟨m, Hm⟩ : ∃ m, Hid (xs.length = m) := ⟨_, rfl⟩
      rw [Hm.out] at hlen hown
      rw [Hm.out]
      by_cases hpr : pr x = true
      · have Hn : Hid (((T.zipIdx.take (x + 1)).filter fun y => pr y.2).map (fun y => y.1.id) = xs ++ [a.id]) := Lib.hid (by rw [take_succ_of (zip_get HTk.out), List.filter_append, List.map_append, ← Hxs.out]; simp [hpr])
        rw [hpr] at hcall
        have Hcall := Lib.hid hcall; clear hcall hpr
        go_wp2_with (first | (go_at_call 70; refine Hcall.out.mono ?_; rintro e w1 ⟨rfl, hb1⟩; have hz1 := hb1.size; have hown1 := own_below (hown.alloc (.cells #[.slice Ak a.ws.length ck, .int .i64 a.id, .bool a.held] 113)) hb1; (have hi1 : w1.cell? ⟨wr.heap.size, 1, none⟩ = some (.int .i64 a.id) := (hb1.cell (p := ⟨wr.heap.size, 1, none⟩) (by simp)).trans (by simp [go_sem])); have hown2 : (w1.alloc (.cells #[.int .i64 a.id] 3)).ownsRow w.heap.size 3 1 (.slice A2 m c2) m (xs.map irow).flatten := hown1.alloc _; (have hnew : RowsAt (w1.alloc (.cells #[.int .i64 a.id] 3)) 1 (some ⟨w1.heap.size, 0, none⟩) 1 1 ([a.id].map irow) := RowsAt.lit _ _ 1 rfl irow_len rfl (by unfold maxLen; omega)); (have hz2 : w.heap.size ≤ w1.heap.size := by simp at hz1; omega); (have hbw1 : Below w.heap.size w w1 := hbw.trans (hb1.mono (by simp; omega))); clear hz1) | (at_builtin; refine wpList_app rfl rfl tyInt rfl hown2 rfl hnew irow_len irow_one ?_ ?_ ?_ ?_; (unfold maxLen; omega); omega; (simp; omega); intro A3 c3 w3 hown3 hbut3 hf3))
        go_roundw
        case rel =>
          rw [← List.map_append] at hown3
          refine ⟨x + 1, xs ++ [a.id], A3, c3, by omega, by go_num, by rw [List.length_append, Hm.out]; rfl, Hn.out.symm, by rw [List.length_append, Hm.out]; simp; omega, by rw [List.length_append, Hm.out]; exact hown3, ?_⟩
          exact (hbw1.alloc hz2 _).trans (hbut3.below' (by simp; omega) (fun i hi => by
            cases A2 with
            | none => cases hi
            | some a2 => have h := hown2.lt a2.block rfl; simp at hi; omega))
        case measure => simp [intOf]; omega
      · have hpr : pr x = false := by simpa using hpr
        have Hn : Hid (((T.zipIdx.take (x + 1)).filter fun y => pr y.2).map (fun y => y.1.id) = xs) := Lib.hid (by rw [take_succ_of (zip_get HTk.out), List.filter_append, List.map_append, ← Hxs.out]; simp [hpr])
        rw [hpr] at hcall
        have Hcall := Lib.hid hcall; clear hcall hpr
        go_wp2_with (go_at_call 70; refine Hcall.out.mono ?_; rintro e w1 ⟨rfl, hb1⟩)
        have hown1 := own_below (hown.alloc (.cells #[.slice Ak a.ws.length ck, .int .i64 a.id, .bool a.held] 113)) hb1
        go_wp2
        go_roundw
        case rel => exact ⟨x + 1, xs, A2, c2, by omega, by go_num, by rw [Hm.out], Hn.out.symm, by rw [Hm.out]; omega, by rw [Hm.out]; exact hown1, hbw.trans (hb1.mono (by simp; omega))⟩
        case measure => simp [intOf]; omega
    · go_wp2
      go_ret
      obtain rfl : x = n := by omega
      have hfin : xs = idsT T pr := by rw [Hxs.out, List.take_of_length_le (by rw [List.length_zipIdx, lT.out]; omega)]; rfl
      subst hfin
      exact ⟨A2, c2, rfl, hown, hb⟩

set_option maxRecDepth 100000 in
set_option maxHeartbeats 1000000 in
theorem ids_hold (base p : Nat) (A : Option Addr) (n c : Nat) (T : List AskD) (rows) (q : Nat) (pr : Nat → Bool) (hbig : n ≤ 100000) (w : World) (hT : TblAt w base p A n c T rows) (hf : Asks n 66 q w pr) :
    Calls Try.prog 65 #[.pointer (some ⟨p, 0, none⟩), .func (.func 66) #[] #[.pointer (some ⟨q, 0, none⟩)]] w (OwnsI w (idsT T pr)) := by
  have hn := hT.n_le
  have hcp := hT.cell
  have lT := Lib.hid hT.lenT
  have Hf := Lib.hid hf; clear hf
  go_enter Try.func65, Try.ntmps65
  go_wp2
  go_loopw [5, 15] (fun v i wr => ∃ (x : Nat) (xs : List Int) (A2 : Option Addr) (c2 : Nat), x ≤ n ∧ i = .int .i64 x ∧ v = .slice A2 xs.length c2 ∧ xs = ((T.zipIdx.take x).filter fun y => pr y.2).map (fun y => y.1.id) ∧ xs.length ≤ x ∧ wr.ownsRow w.heap.size 3 1 (.slice A2 xs.length c2) xs.length (xs.map irow).flatten ∧ Below w.heap.size w wr) (fun _ i _ => n - (intOf i).toNat)
  case atStart => exact ⟨0, [], none, 0, Nat.zero_le _, rfl, rfl, rfl, Nat.le_refl _, World.ownsRow_nil _ _ _ _, Below.refl _ _⟩
  case round =>
    obtain ⟨x, xs, A2, c2, hx, rfl, rfl, hxs, hlen, hown, hb⟩ := hrel
    have Hxs := Lib.hid hxs; clear hxs
    by_cases hlt : x < n
    · obtain ⟨g, Ak, ck, a, hA, hbg, hgl, hgp, hTk, hc0, hc1, hc2, hwk, hstk, h1000k, hfzk, hrowk, hapk⟩ := (hT.below hb).get hlt
      subst hA
      clear hrowk
      have HTk := Lib.hid hTk; clear hTk
      have hsz := hb.size
      have hbn : Below wr.heap.size wr (wr.alloc (.cells #[.slice Ak a.ws.length ck, .int .i64 a.id, .bool a.held] 113)) := (Below.refl _ _).alloc (Nat.le_refl _) _
      have hbw := hb.trans (hbn.mono hsz)
      have hcall := Hf.out _ x hlt hbw
      obtain ⟨m, Hm⟩ : ∃ m, Hid (xs.length = m) := ⟨_, rfl⟩
      rw [Hm.out] at hlen hown
      rw [Hm.out]
      by_cases hpr : pr x = true
      · have Hn : Hid (((T.zipIdx.take (x + 1)).filter fun y => pr y.2).map (fun y => y.1.id) = xs ++ [a.id]) := Lib.hid (by rw [take_succ_of (zip_get HTk.out), List.filter_append, List.map_append, ← Hxs.out]; simp [hpr])
        rw [hpr] at hcall
        have Hcall := Lib.hid hcall; clear hcall hpr
        go_wp2_with (first | (go_at_call 66; refine Hcall.out.mono ?_; rintro e w1 ⟨rfl, hb1⟩; have hz1 := hb1.size; have hown1 := own_below (hown.alloc (.cells #[.slice Ak a.ws.length ck, .int .i64 a.id, .bool a.held] 113)) hb1; (have hi1 : w1.cell? ⟨wr.heap.size, 1, none⟩ = some (.int .i64 a.id) := (hb1.cell (p := ⟨wr.heap.size, 1, none⟩) (by simp)).trans (by simp [go_sem])); have hown2 : (w1.alloc (.cells #[.int .i64 a.id] 3)).ownsRow w.heap.size 3 1 (.slice A2 m c2) m (xs.map irow).flatten := hown1.alloc _; (have hnew : RowsAt (w1.alloc (.cells #[.int .i64 a.id] 3)) 1 (some ⟨w1.heap.size, 0, none⟩) 1 1 ([a.id].map irow) := RowsAt.lit _ _ 1 rfl irow_len rfl (by unfold maxLen; omega)); (have hz2 : w.heap.size ≤ w1.heap.size := by simp at hz1; omega); (have hbw1 : Below w.heap.size w w1 := hbw.trans (hb1.mono (by simp; omega))); clear hz1) | (at_builtin; refine wpList_app rfl rfl tyInt rfl hown2 rfl hnew irow_len irow_one ?_ ?_ ?_ ?_; (unfold maxLen; omega); omega; (simp; omega); intro A3 c3 w3 hown3 hbut3 hf3))
        go_roundw
        case rel =>
          rw [← List.map_append] at hown3
          refine ⟨x + 1, xs ++ [a.id], A3, c3, by omega, by go_num, by rw [List.length_append, Hm.out]; rfl, Hn.out.symm, by rw [List.length_append, Hm.out]; simp; omega, by rw [List.length_append, Hm.out]; exact hown3, ?_⟩
          exact (hbw1.alloc hz2 _).trans (hbut3.below' (by simp; omega) (fun i hi => by
            cases A2 with
            | none => cases hi
            | some a2 => have h := hown2.lt a2.block rfl; simp at hi; omega))
        case measure => simp [intOf]; omega
      · have hpr : pr x = false := by simpa using hpr
        have Hn : Hid (((T.zipIdx.take (x + 1)).filter fun y => pr y.2).map (fun y => y.1.id) = xs) := Lib.hid (by rw [take_succ_of (zip_get HTk.out), List.filter_append, List.map_append, ← Hxs.out]; simp [hpr])
        rw [hpr] at hcall
        have Hcall := Lib.hid hcall; clear hcall hpr
        go_wp2_with (go_at_call 66; refine Hcall.out.mono ?_; rintro e w1 ⟨rfl, hb1⟩)
        have hown1 := own_below (hown.alloc (.cells #[.slice Ak a.ws.length ck, .int .i64 a.id, .bool a.held] 113)) hb1
        go_wp2
        go_roundw
        case rel => exact ⟨x + 1, xs, A2, c2, by omega, by go_num, by rw [Hm.out], Hn.out.symm, by rw [Hm.out]; omega, by rw [Hm.out]; exact hown1, hbw.trans (hb1.mono (by simp; omega))⟩
        case measure => simp [intOf]; omega
    · go_wp2
      go_ret
      obtain rfl : x = n := by omega
      have hfin : xs = idsT T pr := by rw [Hxs.out, List.take_of_length_le (by rw [List.length_zipIdx, lT.out]; omega)]; rfl
      subst hfin
      exact ⟨A2, c2, rfl, hown, hb⟩

theorem readyL_any (base p : Nat) (A : Option Addr) (n c : Nat) (T : List AskD) (rows) (hbig : n ≤ 100000) (w : World) (hT : TblAt w base p A n c T rows) :
    Calls Try.prog 35 #[.pointer (some ⟨p, 0, none⟩)] w (OwnsI w (idsT T (readyT T))) := by
  have hb1 : Below w.heap.size w (w.alloc (.cells #[.pointer (some ⟨p, 0, none⟩)] 59)) := (Below.refl _ _).alloc (Nat.le_refl _) _
  have hT1 := hT.below hb1
  have hq : (w.alloc (.cells #[.pointer (some ⟨p, 0, none⟩)] 59)).cell? ⟨w.heap.size, 0, none⟩ = some (.pointer (some ⟨p, 0, none⟩)) := by simp [go_sem]
  have hcall := ids_ready base p A n c T rows w.heap.size (readyT T) hbig _ hT1 (readyC_any base p A n c T rows _ _ hT1 hq)
  have Hcall := Lib.hid hcall; clear hcall
  go_enter Try.func35, Try.ntmps35
  go_wp2_with (go_at_call 65; refine Hcall.out.mono ?_; rintro e w' ⟨A1, c1, rfl, hown, hb⟩)
  go_ret
  exact ⟨A1, c1, rfl, own_base hown (by simp), hb1.trans (hb.mono (by simp))⟩

theorem waitL_any (base p : Nat) (A : Option Addr) (n c : Nat) (T : List AskD) (rows) (hbig : n ≤ 100000) (w : World) (hT : TblAt w base p A n c T rows) :
    Calls Try.prog 34 #[.pointer (some ⟨p, 0, none⟩)] w (OwnsI w (idsT T (fun k => !heldT T k))) := by
  have hb1 : Below w.heap.size w (w.alloc (.cells #[.pointer (some ⟨p, 0, none⟩)] 59)) := (Below.refl _ _).alloc (Nat.le_refl _) _
  have hT1 := hT.below hb1
  have hq : (w.alloc (.cells #[.pointer (some ⟨p, 0, none⟩)] 59)).cell? ⟨w.heap.size, 0, none⟩ = some (.pointer (some ⟨p, 0, none⟩)) := by simp [go_sem]
  have hcall := ids_wait base p A n c T rows w.heap.size (fun k => !heldT T k) hbig _ hT1 (waitC_any base p A n c T rows _ _ hT1 hq)
  have Hcall := Lib.hid hcall; clear hcall
  go_enter Try.func34, Try.ntmps34
  go_wp2_with (go_at_call 65; refine Hcall.out.mono ?_; rintro e w' ⟨A1, c1, rfl, hown, hb⟩)
  go_ret
  exact ⟨A1, c1, rfl, own_base hown (by simp), hb1.trans (hb.mono (by simp))⟩
end Go.Proofs.Ytinpihplkikldaa
