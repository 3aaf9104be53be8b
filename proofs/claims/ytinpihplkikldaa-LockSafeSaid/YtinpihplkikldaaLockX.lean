/- Lock, part X: 'does', where asks are granted, or freed. -/
import Derived.Test.YtinpihplkikldaaLockW
namespace Go.Proofs.Ytinpihplkikldaa
open Go.RowKit Go.Afx

section
variable {base p n c n2 c2 nw cw nm cm : Nat} {A A2 Aw Am : Option Addr} {T L : List AskD} {rows rows2 : List (List Value)} {ws : List Wt} {more : List Int}

set_option maxRecDepth 100000 in
set_option maxHeartbeats 2000000 in
theorem does_grant (id : Int) (w : World) (hT : TblAt w base p A n c T rows) (hL : LisAt w base A2 n2 c2 L rows2) (hmore : nm ≤ 10)
    (hM : IAt' w Am nm cm more) :
    Calls Try.prog 31 #[.pointer (some ⟨p, 0, none⟩), .slice A2 n2 c2, .agg #[.int .i64 1, .int .i64 id, .slice Am nm cm, .slice Aw nw cw]] w (Did base p n2 (grantT T (id :: more)).2 w) := by
  have hbase : base ≤ w.heap.size := by have := hT.hp; have := hT.blk.lt; omega
  obtain ⟨w1, Hw1⟩ : ∃ w1, Hid (w1 = w.alloc (.cells #[.int .i64 1, .int .i64 id, .slice Am nm cm, .slice Aw nw cw] 26)) := ⟨_, rfl⟩
  have hb1 : Below w.heap.size w w1 := by rw [Hw1.out]; exact (Below.refl _ _).alloc (Nat.le_refl _) _
  have hz1 : w.heap.size + 1 = w1.heap.size := by rw [Hw1.out]; simp
  have hk0 : IsBlk w1 w.heap.size 26 #[.int .i64 1, .int .i64 id, .slice Am nm cm, .slice Aw nw cw] := by rw [Hw1.out]; exact IsBlk.laid _ _ _
  have hown1 := idsOwn w1 id (base := w1.heap.size) (g := w.heap.size + 1) hz1 (Nat.le_refl _)
  have Hz1 := Lib.hid hz1; clear hz1
  have hM1 : RowsAt (w1.alloc (.cells #[.int .i64 id] 3)) 1 Am nm cm (more.map irow) := (RowsAt.below hM hb1).below ((Below.refl _ _).alloc (Nat.le_refl _) _)
  go_enter Try.func31, Try.ntmps31
  go_wp2_with (at_builtin; rw [← Hw1.out]; refine wpList_app rfl rfl tyInt rfl hown1 rfl hM1 irow_len irow_one ?_ ?_ ?_ ?_; (unfold maxLen; omega); omega; (simp); intro A3 c3 w3 hown3 hbut3 hf3; have hk3 := start_blk Hz1.out hk0 hbut3; have hk30 := hk3.cell 0; have hk31 := hk3.cell 1; have hk33 := hk3.cell 3; simp at hk30 hk31 hk33; have hlt3 := hk3.lt)
  have hb3 := start_below Hz1.out hb1 hbut3
  have hI3 : IAt' w3 A3 (1 + nm) c3 (id :: more) := RowsAt.of_own (xs := [id].map irow ++ more.map irow) hown3 (fun r hr => by rw [← List.map_append] at hr; exact irow_len r hr) (by have := hM.len; simp at this; simp [this]; omega)
  have hA3 : ∀ a, A3 = some a → w.heap.size < a.block ∧ a.block < w3.heap.size := fun a e => by subst e; have h1 := hown3.lt a.block rfl; have := Hz1.out; omega
  have hA2 : ∀ a, A2 = some a → a.block < w.heap.size := fun a e => by subst e; exact (hL.own.lt a.block rfl).2
  have hT3 := hT.below hb3
  have hL3 := hL.below hb3
  have hnm : nm ≤ 10 := hmore
  have Hk0 := Lib.hid hk0
  clear hk0 hk3 hk30 hk31 hk33 hown1 hM1 hown3 hbut3 hf3
  go_loopw [10, 11] (fun v i wr => ∃ (x : Nat) (code : Int) (L' : List AskD) (rows2' : List (List Value)), x ≤ 1 + nm ∧ i = .int .i64 x ∧ v = .int .i64 code ∧ LisAt wr base A2 n2 c2 L' rows2' ∧ TblAt wr base p A n c T rows ∧ But (fun k => A2.map (·.block) = some k) w3 wr) (fun _ i _ => 1 + nm - (intOf i).toNat)
  case atStart => exact ⟨0, 0, L, rows2, Nat.zero_le _, rfl, rfl, hL3, hT3, But.refl _ _⟩
  case round =>
    obtain ⟨x, code, L', rows2', hx, rfl, rfl, hLr, hTr, hbut⟩ := hrel
    have hIr : IAt' wr A3 (1 + nm) c3 (id :: more) := RowsAt.but hI3 hbut (fun a e _ h2 => by
      cases A2 with
      | none => cases h2
      | some a2 => simp at h2; have := hA2 a2 rfl; have := (hA3 a e).1; omega)
    have fin : ∀ W, W = wr → Calls Try.prog 37 #[.pointer (some ⟨p, 0, none⟩), .slice A3 (1 + nm) c3] W fun e w' => ∃ v : Int, e = .returned (.int .i64 v) ∧ ∀ ok, Did base p n2 (grantT T (id :: more)).2 w (.returned (.tuple #[.slice A2 n2 c2, .bool ok])) w' := by
      rintro W rfl
      refine (grant_any base p A n c T rows A3 (1 + nm) c3 (id :: more) _ hTr hIr (fun a e _ hf => ?_)).mono ?_
      · have := hT.footLt _ hf; have := hA3 a e; omega
      · intro e w' hmv
        have hmv' := hmv
        obtain ⟨A', n', c', rows', rfl, _⟩ := hmv
        exact ⟨_, rfl, fun ok => Did.mk_ ok hTr hLr (by omega) ((hb3.mono hbase).trans (hbut.below' (by have := hb3.size; omega) fun i hi => by
          cases A2 with
          | none => cases hi
          | some a2 => simp at hi; subst hi; exact (hL.own.lt _ rfl).1)) hmv'⟩
    have Fin := Lib.hid fin; clear fin
    by_cases hgo : x < 1 + nm ∧ code = 0
    · obtain ⟨hlt, rfl⟩ := hgo
      obtain ⟨b, o, idx, rfl, hbl, hidx, hc0⟩ := hIr.get hlt
      clear hidx
      have hcall := find_ref base A2 n2 c2 L' rows2' idx wr hLr
      have hfr := findT_range L' idx
      have hll := hLr.lenL
      generalize findT L' idx = fv at *
      have Hcall := Lib.hid hcall; clear hcall
      by_cases hneg : fv < 0
      · have hfv : fv = -1 := by omega
        subst hfv
        clear hfr hneg
        go_wp2_with (go_at_call 63; refine Hcall.out.mono ?_; rintro e w4 ⟨rfl, k4, rfl⟩)
        go_roundw
        case rel => exact ⟨x + 1, 8, L', rows2', by omega, by go_num, rfl, hLr.drewN _, hTr.drewN _, hbut.drewN _⟩
        case measure => simp [intOf]; omega
      · obtain ⟨i, rfl⟩ : ∃ i : Nat, fv = i := ⟨fv.toNat, by omega⟩
        have hin : i < n2 := by omega
        clear hfr hneg
        obtain ⟨g, Ai, ci, a, hA, hbg, hgl, hLi, hi0, hi1, hi2, hwi, hfz, hrow⟩ := hLr.get hin
        subst hA
        clear hLi hrow
        have hready := fun k => ready_ref base (some ⟨g, 0, none⟩) n2 c2 L' rows2' i hin (wr.drewN k) (hLr.drewN k)
        have Hready := Lib.hid hready; clear hready
        generalize a.held = ah at *
        cases ah
        · go_wp2_with (first | (go_at_call 63; refine Hcall.out.mono ?_; rintro e w4 ⟨rfl, k4, rfl⟩) | (go_at_call 64; refine (Hready.out k4).mono ?_; rintro e w5 ⟨bb, rfl, k5, rfl⟩; cases bb))
          · go_roundw
            case rel => exact ⟨x + 1, 18, L', rows2', by omega, by go_num, rfl, hLr.drewN _, hTr.drewN _, hbut.drewN _⟩
            case measure => simp [intOf]; omega
          · go_roundw
            case rel =>
              obtain ⟨rows3, h3⟩ := (hLr.drewN (k4 + k5)).hold hin
              exact ⟨x + 1, 0, _, rows3, by omega, by go_num, rfl, h3, (hTr.drewN (k4 + k5)).poke (hLr.drewN (k4 + k5)) hin _, (hbut.drewN _).setCell (p := ⟨g, i * 3 + 2, none⟩) (.inl rfl) _⟩
            case measure => simp [intOf]; omega
        · go_wp2_with (go_at_call 63; refine Hcall.out.mono ?_; rintro e w4 ⟨rfl, k4, rfl⟩)
          go_roundw
          case rel => exact ⟨x + 1, 8, L', rows2', by omega, by go_num, rfl, hLr.drewN _, hTr.drewN _, hbut.drewN _⟩
          case measure => simp [intOf]; omega
    · by_cases hlt : x < 1 + nm
      · have hcode : (code == 0) = false := by simp; omega
        clear hgo
        go_wp2_with (go_at_call 37; refine (Fin.out _ rfl).mono ?_; rintro e w5 ⟨v, rfl, hd⟩)
        go_ret2
        exact hd _
      · clear hgo
        go_wp2_with (go_at_call 37; refine (Fin.out _ rfl).mono ?_; rintro e w5 ⟨v, rfl, hd⟩)
        go_ret2
        exact hd _

theorem LisAt.rowsAt {w : World} (h : LisAt w base A n c L rows) : RowsAt w 3 A n c rows := RowsAt.of_own h.own h.rowLen h.lenR
theorem LisAt.one {w : World} (h : LisAt w base A n c L rows) : ∀ r ∈ rows, ∀ u ∈ r, u.oneCell' = true := by
  intro r hr u hu
  obtain ⟨k, hk, rfl⟩ := List.mem_iff_getElem.1 hr
  obtain ⟨Ak, nk, ck, e, _⟩ := h.at_ k _ (List.getElem?_eq_getElem (by have := h.lenL; have := h.lenR; omega))
  rw [List.getElem?_eq_getElem hk] at e
  injection e with e
  rw [e] at hu
  simp only [List.mem_cons, List.not_mem_nil, or_false] at hu
  rcases hu with rfl | rfl | rfl <;> rfl

/-- a slice cut at its end, or at its head -/
theorem RowsAt.upto {w : World} {sz k : Nat} {xs : List (List Value)} (h : RowsAt w sz A n c xs) (hk : k ≤ n) : RowsAt w sz A k c (xs.take k) :=
  ⟨by rw [List.length_take, h.len]; omega, Nat.le_trans hk h.cap, h.max, fun j row hj => h.at_ j row (by
    rw [List.getElem?_take] at hj
    split at hj
    · exact hj
    · cases hj)⟩
theorem RowsAt.behind {w : World} {sz k g o : Nat} {xs : List (List Value)} (h : RowsAt w sz (some ⟨g, o, none⟩) n c xs) (hk : k ≤ n) : RowsAt w sz (if c = k then some ⟨g, o, none⟩ else some ⟨g, o + k * sz, none⟩) (n - k) (c - k) (xs.drop k) :=
  ⟨by rw [List.length_drop, h.len], by have := h.cap; omega, by have := h.max; omega, fun j row hj => by
    rw [List.getElem?_drop] at hj
    have hlt := (List.getElem?_eq_some_iff.1 hj).1
    have hl := h.len
    have hc := h.cap
    obtain ⟨b, o', hA, hb, hcell⟩ := h.at_ (k + j) row hj
    simp only [Option.some.injEq, Addr.mk.injEq, and_true] at hA
    obtain ⟨rfl, rfl⟩ := hA
    rw [if_neg (by omega)]
    refine ⟨g, o + k * sz, rfl, hb, fun i u hu => ?_⟩
    have h2 := hcell i u hu
    rw [Nat.add_mul] at h2
    rw [← Nat.add_assoc] at h2
    exact h2⟩

/-- an ask less in the statement's list -/
theorem LisAt.erase {w w8 : World} {A8 : Option Addr} {c8 q i : Nat} (h : LisAt w base A n c L rows) (hi : i < n) (hb : Below w.heap.size w w8) (hq : q = n - 1)
    (hown : w8.ownsRow base 107 3 (.slice A8 q c8) q (rows.take i ++ rows.drop (i + 1)).flatten) : LisAt w8 base A8 q c8 (L.eraseIdx i) (rows.eraseIdx i) := by
  subst hq
  rw [← List.eraseIdx_eq_take_drop_succ] at hown
  refine ⟨hown, by rw [List.length_eraseIdx, h.lenL]; simp [hi], by rw [List.length_eraseIdx, h.lenR]; simp [hi], fun k a hk => ?_⟩
  have key : ∀ j, L[j]? = some a → ∃ Ak nk ck, rows[j]? = some [Value.int .i64 a.id, .slice Ak nk ck, .bool a.held] ∧ WAt w8 Ak nk ck a.ws ∧ (∀ ad, Ak = some ad → 0 < nk → ∃ cs, IsBlk w8 ad.block 31 cs) := fun j hj => by
    obtain ⟨Ak, nk, ck, hr, hw, hap⟩ := h.at_ j a hj
    exact ⟨Ak, nk, ck, hr, hw.below hb, fun ad e h0 => by
      obtain ⟨cs, hc⟩ := hap ad e h0
      exact ⟨cs, hc.as_was (hb.block _ hc.lt)⟩⟩
  rw [List.getElem?_eraseIdx] at hk ⊢
  split at hk
  · rename_i hki; rw [if_pos hki]; exact key k hk
  · rename_i hki; rw [if_neg hki]; exact key (k + 1) hk

set_option maxRecDepth 100000 in
set_option maxHeartbeats 2000000 in
theorem does_free (kind id : Int) (hk0 : (kind == 0) = false) (hk1 : (kind == 1) = false) (w : World) (hT : TblAt w base p A n c T rows) (hL : LisAt w base A2 n2 c2 L rows2) (hn2 : n2 ≤ 100000) (hmore : nm ≤ 10)
    (hM : IAt' w Am nm cm more) :
    Calls Try.prog 31 #[.pointer (some ⟨p, 0, none⟩), .slice A2 n2 c2, .agg #[.int .i64 kind, .int .i64 id, .slice Am nm cm, .slice Aw nw cw]] w (Did base p n2 (freeT T (id :: more)).2 w) := by
  have hbase : base ≤ w.heap.size := by have := hT.hp; have := hT.blk.lt; omega
  obtain ⟨w1, Hw1⟩ : ∃ w1, Hid (w1 = w.alloc (.cells #[.int .i64 kind, .int .i64 id, .slice Am nm cm, .slice Aw nw cw] 26)) := ⟨_, rfl⟩
  have hb1 : Below w.heap.size w w1 := by rw [Hw1.out]; exact (Below.refl _ _).alloc (Nat.le_refl _) _
  have hz1 : w.heap.size + 1 = w1.heap.size := by rw [Hw1.out]; simp
  have hkb : IsBlk w1 w.heap.size 26 #[.int .i64 kind, .int .i64 id, .slice Am nm cm, .slice Aw nw cw] := by rw [Hw1.out]; exact IsBlk.laid _ _ _
  have hown1 := idsOwn w1 id (base := w1.heap.size) (g := w.heap.size + 1) hz1 (Nat.le_refl _)
  have Hz1 := Lib.hid hz1; clear hz1
  have hM1 : RowsAt (w1.alloc (.cells #[.int .i64 id] 3)) 1 Am nm cm (more.map irow) := (RowsAt.below hM hb1).below ((Below.refl _ _).alloc (Nat.le_refl _) _)
  go_enter Try.func31, Try.ntmps31
  go_wp2_with (at_builtin; rw [← Hw1.out]; refine wpList_app rfl rfl tyInt rfl hown1 rfl hM1 irow_len irow_one ?_ ?_ ?_ ?_; (unfold maxLen; omega); omega; (simp); intro A3 c3 w3 hown3 hbut3 hf3; have hk3 := start_blk Hz1.out hkb hbut3; have hk30 := hk3.cell 0; have hk31 := hk3.cell 1; have hk33 := hk3.cell 3; simp at hk30 hk31 hk33; have hlt3 := hk3.lt)
  have hb3 := start_below Hz1.out hb1 hbut3
  have hI3 : IAt' w3 A3 (1 + nm) c3 (id :: more) := RowsAt.of_own (xs := [id].map irow ++ more.map irow) hown3 (fun r hr => by rw [← List.map_append] at hr; exact irow_len r hr) (by have := hM.len; simp at this; simp [this]; omega)
  have hA3 : ∀ a, A3 = some a → w.heap.size < a.block ∧ a.block < w3.heap.size := fun a e => by subst e; have h1 := hown3.lt a.block rfl; have := Hz1.out; omega
  have hT3 := hT.below hb3
  have hL3 := hL.below hb3
  have hbase3 : base ≤ w3.heap.size := by have := hb3.size; omega
  clear hkb hk3 hk30 hk31 hk33 hown1 hM1 hown3 hbut3 hf3
  go_loopw [1, 13, 14] (fun u v i wr => ∃ (x : Nat) (code : Int) (L' : List AskD) (A' : Option Addr) (m' c' : Nat) (rows2' : List (List Value)), x ≤ 1 + nm ∧ i = .int .i64 x ∧ v = .int .i64 code ∧ u = .slice A' m' c' ∧ m' ≤ n2 ∧ LisAt wr base A' m' c' L' rows2' ∧ Below w3.heap.size w3 wr) (fun _ _ i _ => 1 + nm - (intOf i).toNat)
  case atStart => exact ⟨0, 0, L, A2, n2, c2, rows2, Nat.zero_le _, rfl, rfl, rfl, Nat.le_refl _, hL3, Below.refl _ _⟩
  case round =>
    obtain ⟨x, code, L', A', m', c', rows2', hx, rfl, rfl, rfl, hm', hLr, hbr⟩ := hrel
    have hIr : IAt' wr A3 (1 + nm) c3 (id :: more) := RowsAt.below hI3 hbr
    have hTr := hT3.below hbr
    have hbw : Below base w wr := (hb3.mono hbase).trans (hbr.mono hbase3)
    have fin : ∀ W, W = wr → Calls Try.prog 36 #[.pointer (some ⟨p, 0, none⟩), .slice A3 (1 + nm) c3] W fun e w' => ∃ v : Int, e = .returned (.int .i64 v) ∧ ∀ ok, Did base p n2 (freeT T (id :: more)).2 w (.returned (.tuple #[.slice A' m' c', .bool ok])) w' := by
      rintro W rfl
      refine (free_any base p A n c T rows A3 (1 + nm) c3 (id :: more) _ hTr hIr (fun a e _ hf => ?_)).mono ?_
      · have := hT.footLt _ hf; have := hA3 a e; omega
      · intro e w' hmv
        have hmv' := hmv
        obtain ⟨A', n', c', rows', rfl, _⟩ := hmv
        exact ⟨_, rfl, fun ok => Did.mk_ ok hTr hLr (by omega) hbw hmv'⟩
    have Fin := Lib.hid fin; clear fin
    by_cases hgo : x < 1 + nm ∧ code = 0
    · obtain ⟨hlt, rfl⟩ := hgo
      obtain ⟨b, o, idx, rfl, hbl, hidx, hc0⟩ := hIr.get hlt
      clear hidx
      have hcall := find_ref base A' m' c' L' rows2' idx wr hLr
      have hfr := findT_range L' idx
      have hll := hLr.lenL
      generalize findT L' idx = fv at *
      have Hcall := Lib.hid hcall; clear hcall
      by_cases hneg : fv < 0
      · have hfv : fv = -1 := by omega
        subst hfv
        clear hfr hneg
        go_wp2_with (go_at_call 63; refine Hcall.out.mono ?_; rintro e w4 ⟨rfl, k4, rfl⟩)
        go_roundw
        case rel => exact ⟨x + 1, 8, L', A', m', c', rows2', by omega, by go_num, rfl, rfl, hm', hLr.drewN _, below_drewN hbr _⟩
        case measure => simp [intOf]; omega
      · obtain ⟨i, rfl⟩ : ∃ i : Nat, fv = i := ⟨fv.toNat, by omega⟩
        have hin : i < m' := by omega
        clear hfr hneg
        obtain ⟨g, Ai, ci, a, hA, hbg, hgl, hLi, hi0, hi1, hi2, hwi, hfz, hrow⟩ := hLr.get hin
        subst hA
        clear hLi hrow hi0 hi1 hi2 hfz
        have hR := hLr.rowsAt
        have hcap := hR.cap
        have hcm := hR.max
        have hcm : c' ≤ 9223372036854775807 := by unfold maxLen at hcm; omega
        have hi1 : IntKind.i64.wrap ((i : Int) + 1) = (i : Int) + 1 := IntWalk.i64_in _ (by omega)
        have hi2 : 0 ≤ (i : Int) + 1 := by omega
        have hi3 : ((i : Int) + 1).toNat = i + 1 := by omega
        have hi4 : (i : Int) + 1 ≤ (m' : Int) := by omega
        have htake : ∀ k, RowsAt (wr.drewN k) 3 (some ⟨g, 0, none⟩) i c' (rows2'.take i) := fun k => RowsAt.upto (hR.drewN k) (by omega)
        have Htake := Lib.hid htake; clear htake
        go_wp2_with (first
          | (go_at_call 63; refine Hcall.out.mono ?_; rintro e w4 ⟨rfl, k4, rfl⟩)
          | (at_builtin; (refine wpList_app (s := .tmp 114) (x := .tmp 117) (xs := []) rfl rfl tyLis rfl (World.ownsRow_nil _ base _ _) rfl (Htake.out k4) (fun r hr => hLr.rowLen r (List.mem_of_mem_take hr)) (fun r hr => hLr.one r (List.mem_of_mem_take hr)) ?_ ?_ ?_ ?_; (unfold maxLen; omega); omega; (have := hbr.size; simp; omega); intro A7 c7 w7 hown7 hbut7 hf7; rw [Nat.zero_add, List.nil_append] at hown7; have hb7 := hbut7.below (fun i hi => by cases hi); have hdrop7 := RowsAt.below (RowsAt.behind (hR.drewN k4) (k := i + 1) (by omega)) hb7; rw [Nat.zero_add] at hdrop7; have hz7 := hb7.size))
          | (at_builtin; go_loud (refine wpList_app (s := .tmp 119) (x := .tmp 123) rfl rfl tyLis rfl hown7 rfl hdrop7 (fun r hr => hLr.rowLen r (List.mem_of_mem_drop hr)) (fun r hr => hLr.one r (List.mem_of_mem_drop hr)) ?_ ?_ ?_ ?_; (unfold maxLen; omega); omega; (have := hbr.size; simp at hz7; omega); intro A8 c8 w8 hown8 hbut8 hf8)))
        have hb8 : Below wr.heap.size wr w8 := ((below_drewN (Below.refl _ _) k4).trans hb7).trans (hbut8.below' (by simp at hz7; exact hz7) fun i hi => by
          cases A7 with
          | none => cases hi
          | some a7 =>
            rcases hf7 a7 rfl with h0 | h0
            · cases h0
            · have h1 : wr.heap.size ≤ a7.block := h0
              simp at hi; omega)
        go_roundw
        case rel => exact ⟨x + 1, 0, L'.eraseIdx i, A8, _, c8, rows2'.eraseIdx i, by omega, by go_num, rfl, rfl, by omega, hLr.erase hin hb8 (by omega) hown8, hbr.trans (hb8.mono hbr.size)⟩
        case measure => simp [intOf]; omega
    · by_cases hlt : x < 1 + nm
      · have hcode : (code == 0) = false := by simp; omega
        clear hgo
        go_wp2_with (go_at_call 36; refine (Fin.out _ rfl).mono ?_; rintro e w5 ⟨v, rfl, hd⟩)
        go_ret2
        exact hd _
      · clear hgo
        go_wp2_with (go_at_call 36; refine (Fin.out _ rfl).mono ?_; rintro e w5 ⟨v, rfl, hd⟩)
        go_ret2
        exact hd _

/-- an act upon the table -/
def actT (T : List AskD) (a : ActD) : List AskD := if a.kind = 0 then (askT T a.id a.wants).2 else if a.kind = 1 then (grantT T (a.id :: a.more)).2 else (freeT T (a.id :: a.more)).2

theorem does_any (a : ActD) (w : World) (hT : TblAt w base p A n c T rows) (hL : LisAt w base A2 n2 c2 L rows2) (hn : n ≤ 100000) (hn2 : n2 ≤ 100000) (hws : a.wants.length ≤ 10) (hmore : nm ≤ 10)
    (hW : WAt w Aw nw cw a.wants) (hWb : ∀ ad, Aw = some ad → 0 < nw → ad.block < base) (hM : IAt w Am nm cm a.more) :
    Calls Try.prog 31 #[.pointer (some ⟨p, 0, none⟩), .slice A2 n2 c2, .agg #[.int .i64 a.kind, .int .i64 a.id, .slice Am nm cm, .slice Aw nw cw]] w (Did base p n2 (actT T a) w) := by
  unfold actT
  by_cases h0 : a.kind = 0
  · rw [if_pos h0, h0]
    exact does_ask a.id w hT hL hn hn2 hws hmore hW hWb hM
  · rw [if_neg h0]
    by_cases h1 : a.kind = 1
    · rw [if_pos h1, h1]
      exact does_grant a.id w hT hL hmore hM
    · rw [if_neg h1]
      exact does_free a.kind a.id (by simpa using h0) (by simpa using h1) w hT hL hn2 hmore hM
end
end Go.Proofs.Ytinpihplkikldaa
