/- Lock, part W: the statement's own 'does': what becomes of the table; its list stays a list. -/
import Derived.Test.YtinpihplkikldaaLockV
import Derived.Test.YtinpihplkikldaaLockG
import Derived.Test.YtinpihplkikldaaLockB
namespace Go.Proofs.Ytinpihplkikldaa
open Go.RowKit Go.Afx

theorem tyLis : ElemTy Try.prog 61 107 3 40 (.agg #[.int .i64 0, .slice none 0 0, .bool false]) := ⟨Try.underlying61, by kernel_rfl, rfl, by decide⟩

/-- what 'does' leaves -/
def Did (base p n2 : Nat) (T' : List AskD) (w : World) (e : Ending) (w' : World) : Prop :=
  ∃ (A' A2 : Option Addr) (n' c' m2 c2 : Nat) (rows' : List (List Value)) (L' : List AskD) (rows2 : List (List Value)) (ok : Bool), e = .returned (.tuple #[.slice A2 m2 c2, .bool ok]) ∧
    TblAt w' base p A' n' c' T' rows' ∧ LisAt w' base A2 m2 c2 L' rows2 ∧ m2 ≤ n2 + 1 ∧ Below base w w'

theorem Did.mk_ {base p n c m2 c2 n2 : Nat} {A A2 : Option Addr} {T T' : List AskD} {rows : List (List Value)} {L : List AskD} {rows2 : List (List Value)} {w w1 w' : World} {v : Value} {e : Ending} (ok : Bool)
    (hT : TblAt w1 base p A n c T rows) (hL : LisAt w1 base A2 m2 c2 L rows2) (hm : m2 ≤ n2 + 1) (hb : Below base w w1) (h : Moved base p A T' v w1 e w') : Did base p n2 T' w (.returned (.tuple #[.slice A2 m2 c2, .bool ok])) w' := by
  obtain ⟨A', n', c', rows', _, h1, h2, _⟩ := h
  exact ⟨A', A2, n', c', m2, c2, rows', L, rows2, ok, rfl, h1, hL.beside hT h2, hm, hb.trans (hT.footBelow h2)⟩

section
variable {base p n c n2 c2 nw cw nm cm : Nat} {A A2 Aw Am : Option Addr} {T L : List AskD} {rows rows2 : List (List Value)} {ws : List Wt} {more : List Int}

/-- the ids of an act: 'append([]int{a.Id}, a.More...)' -/
theorem idsOwn (w : World) (id : Int) {base g : Nat} (hg : g = w.heap.size) (hb : base ≤ w.heap.size) : (w.alloc (.cells #[.int .i64 id] 3)).ownsRow base 3 1 (.slice (some ⟨g, 0, none⟩) 1 1) 1 ([id].map irow).flatten := by
  subst hg
  exact World.ownsRow_lit w _ 1 hb (by unfold maxLen; omega) rfl

theorem start_below {w w1 w3 : World} {o : Obj} {g : Nat} (hg : g = w1.heap.size) (hb1 : Below w.heap.size w w1) (hbut3 : But (fun k => (some (⟨g, 0, none⟩ : Addr)).map (·.block) = some k) (w1.alloc o) w3) : Below w.heap.size w w3 :=
  (hb1.trans (((Below.refl w1.heap.size w1).alloc (Nat.le_refl _) o).mono hb1.size)).trans (hbut3.below' (by have := hb1.size; simp; omega) fun i hi => by have := hb1.size; simp at hi; omega)
theorem start_blk {w1 w3 : World} {o : Obj} {g g1 : Nat} {t : TypeId} {cs : Array Value} (hg : g1 = w1.heap.size) (hk : IsBlk w1 g t cs) (hbut3 : But (fun k => (some (⟨g1, 0, none⟩ : Addr)).map (·.block) = some k) (w1.alloc o) w3) : IsBlk w3 g t cs :=
  (hk.alloc o).as_was (hbut3.block g (by have := hk.lt; simp; omega) (by have := hk.lt; simp; omega))
theorem LisAt.off {w : World} (h : LisAt w base A n c L rows) {g : Nat} {cs : Array Value} (hc : IsBlk w g 31 cs) : A.map (·.block) ≠ some g := by
  intro e
  cases A with
  | none => cases e
  | some a =>
    obtain ⟨cs2, h2⟩ := own_blk h.own
    simp at e
    exact blk_ne h2 hc (by decide) e

/-- an ask more in the statement's list -/
theorem LisAt.push {w5 w6 : World} {A5 A6 : Option Addr} {c5 c6 : Nat} {a : AskD} {o : Obj} (h : LisAt w5 base A n c L rows) (hw : WAt w5 A5 a.ws.length c5 a.ws) (hblk : ∀ ad, A5 = some ad → 0 < a.ws.length → ∃ cs, IsBlk w5 ad.block 31 cs)
    (hown : w6.ownsRow base 107 3 (.slice A6 (n + 1) c6) (n + 1) (rows ++ [[Value.int .i64 a.id, .slice A5 a.ws.length c5, .bool a.held]]).flatten) (hbut : But (fun k => A.map (·.block) = some k) (w5.alloc o) w6) :
    LisAt w6 base A6 (n + 1) c6 (L ++ [a]) (rows ++ [[Value.int .i64 a.id, .slice A5 a.ws.length c5, .bool a.held]]) := by
  have keep : ∀ (Ak : Option Addr) (nk ck : Nat) (ws : List Wt), WAt w5 Ak nk ck ws → (∀ ad, Ak = some ad → 0 < nk → ∃ cs, IsBlk w5 ad.block 31 cs) →
      WAt w6 Ak nk ck ws ∧ (∀ ad, Ak = some ad → 0 < nk → ∃ cs, IsBlk w6 ad.block 31 cs) := fun Ak nk ck ws hwk hapk => by
    refine ⟨RowsAt.but (hwk.below ((Below.refl _ _).alloc (Nat.le_refl _) _)) hbut (fun ad e h0 => ?_), fun ad e h0 => ?_⟩
    · obtain ⟨cs, hc⟩ := hapk ad e h0
      exact h.off hc
    · obtain ⟨cs, hc⟩ := hapk ad e h0
      exact ⟨cs, (hc.alloc o).as_was (hbut.block _ (hc.alloc o).lt (h.off hc))⟩
  refine ⟨hown, by rw [List.length_append, h.lenL]; rfl, by rw [List.length_append, h.lenR]; rfl, fun k b hk => ?_⟩
  rcases Nat.lt_or_ge k n with hlt | hge
  · rw [List.getElem?_append_left (by rw [h.lenL]; exact hlt)] at hk
    obtain ⟨Ak, nk, ck, hr, hwk, hapk⟩ := h.at_ k b hk
    obtain ⟨k1, k2⟩ := keep Ak nk ck _ hwk hapk
    exact ⟨Ak, nk, ck, by rw [List.getElem?_append_left (by rw [h.lenR]; exact hlt)]; exact hr, k1, k2⟩
  · rw [List.getElem?_append_right (by rw [h.lenL]; exact hge), h.lenL] at hk
    obtain ⟨h0, rfl⟩ : k - n = 0 ∧ a = b := by
      cases hkn : k - n with
      | zero => rw [hkn] at hk; simp at hk; exact ⟨rfl, hk⟩
      | succ m => rw [hkn] at hk; simp at hk
    obtain ⟨k1, k2⟩ := keep A5 _ c5 _ hw hblk
    exact ⟨A5, _, c5, by rw [List.getElem?_append_right (by rw [h.lenR]; exact hge), h.lenR, h0]; rfl, k1, k2⟩

theorem newLis (w : World) (A : Option Addr) (n c : Nat) (id : Int) (x : Bool) : RowsAt (w.alloc (.cells #[.int .i64 id, .slice A n c, .bool x] 107)) 3 (some ⟨w.heap.size, 0, none⟩) 1 1 [[.int .i64 id, .slice A n c, .bool x]] :=
  RowsAt.lit _ _ 1 rfl (by simp) rfl (by unfold maxLen; omega)

/-- the table stays where only the list's block, and what is new, turns -/
theorem TblAt.beside {w w' : World} {T : List AskD} {rows : List (List Value)} {A2 : Option Addr} {n2 c2 : Nat} {L : List AskD} {rows2 : List (List Value)} (h : TblAt w base p A n c T rows) (hL : LisAt w base A2 n2 c2 L rows2)
    (hb : But (fun k => A2.map (·.block) = some k) w w') : TblAt w' base p A n c T rows := by
  have hoff : ∀ {g : Nat} {t : TypeId} {cs : Array Value}, IsBlk w g t cs → 107 ≠ t → ¬ A2.map (·.block) = some g := fun hc ht e => by
    cases A2 with
    | none => cases e
    | some a =>
      obtain ⟨cs2, h2⟩ := own_blk hL.own
      simp at e
      exact blk_ne h2 hc ht e
  refine h.but hb (hoff h.blk (by decide)) (fun a ha => ?_) (fun k a Ak nk ck ad hk hr e h0 => ?_)
  · subst ha
    obtain ⟨cs, hcs⟩ := own_blk h.own
    exact hoff hcs (by decide)
  · obtain ⟨Aj, nj, cj, hr2, hw2, hs2, hl2, hap2⟩ := h.at_ k a hk
    rw [hr] at hr2
    simp only [Option.some.injEq, List.cons.injEq, Value.slice.injEq, and_true] at hr2
    obtain ⟨rfl, rfl, rfl⟩ := hr2
    obtain ⟨cs, hcs⟩ := hap2 ad e h0
    exact hoff hcs (by decide)
theorem LisAt.drewN {w : World} (h : LisAt w base A n c L rows) (k : Nat) : LisAt (w.drewN k) base A n c L rows := h.below (below_drewN (Below.refl _ _) k)
theorem TblAt.drewN {w : World} (h : TblAt w base p A n c T rows) (k : Nat) : TblAt (w.drewN k) base p A n c T rows := h.below (below_drewN (Below.refl _ _) k)

/-- behind an ask that is laid into the statement's list -/
theorem ask_more {w w5 w6 : World} {A5 A6 : Option Addr} {c5 c6 : Nat} {u : List Wt} {id : Int} {o : Obj} {b0 : Nat} {cs : Array Value} {t : TypeId} (hT : TblAt w base p A n c T rows) (hL : LisAt w base A2 n2 c2 L rows2) (hW : WAt w Aw nw cw ws) (hWb : ∀ ad, Aw = some ad → 0 < nw → ad.block < base)
    (hb05 : Below w.heap.size w w5) (hownU : w5.ownsRow b0 31 2 (.slice A5 u.length c5) u.length (flatW u)) (hk : IsBlk w5 w.heap.size t cs)
    (hown6 : w6.ownsRow base 107 3 (.slice A6 (n2 + 1) c6) (n2 + 1) (rows2 ++ [[Value.int .i64 id, .slice A5 u.length c5, .bool false]]).flatten) (hbut6 : But (fun k => A2.map (·.block) = some k) (w5.alloc o) w6) :
    TblAt w6 base p A n c T rows ∧ (∃ rows3, LisAt w6 base A6 (n2 + 1) c6 (L ++ [⟨u, id, false⟩]) rows3) ∧ WAt w6 Aw nw cw ws ∧ IsBlk w6 w.heap.size t cs ∧ Below base w w6 := by
  have hA2 : ∀ k, A2.map (·.block) = some k → base ≤ k ∧ k < w.heap.size := fun k e => by
    cases A2 with
    | none => cases e
    | some a => simp at e; subst e; exact hL.own.lt a.block rfl
  have hbase : base ≤ w.heap.size := by have := hT.hp; have := hT.blk.lt; omega
  have hba : Below w.heap.size w (w5.alloc o) := hb05.alloc hb05.size o
  refine ⟨(hT.below hba).beside (hL.below hba) hbut6, ⟨_, (hL.below hb05).push (a := ⟨u, id, false⟩) (WAt.of_own hownU rfl) (fun ad e _ => by subst e; exact own_blk hownU) hown6 hbut6⟩, RowsAt.but (hW.below hba) hbut6 (fun ad e h0 e2 => ?_), (hk.alloc o).as_was (hbut6.block _ (hk.alloc o).lt (fun e => ?_)), ?_⟩
  · have := hWb ad e h0; have := (hA2 _ e2).1; omega
  · have := (hA2 _ e).2; omega
  · exact (hba.mono hbase).trans (hbut6.below' (by have := hba.size; omega) fun i hi => (hA2 i hi).1)

set_option maxRecDepth 100000 in
set_option maxHeartbeats 2000000 in
theorem does_ask (id : Int) (w : World) (hT : TblAt w base p A n c T rows) (hL : LisAt w base A2 n2 c2 L rows2) (hn : n ≤ 100000) (hn2 : n2 ≤ 100000) (hws : ws.length ≤ 10) (hmore : nm ≤ 10)
    (hW : WAt w Aw nw cw ws) (hWb : ∀ ad, Aw = some ad → 0 < nw → ad.block < base) (hM : IAt' w Am nm cm more) :
    Calls Try.prog 31 #[.pointer (some ⟨p, 0, none⟩), .slice A2 n2 c2, .agg #[.int .i64 0, .int .i64 id, .slice Am nm cm, .slice Aw nw cw]] w (Did base p n2 (askT T id ws).2 w) := by
  have hbase : base ≤ w.heap.size := by have := hT.hp; have := hT.blk.lt; omega
  obtain ⟨w1, Hw1⟩ : ∃ w1, Hid (w1 = w.alloc (.cells #[.int .i64 0, .int .i64 id, .slice Am nm cm, .slice Aw nw cw] 26)) := ⟨_, rfl⟩
  have hb1 : Below w.heap.size w w1 := by rw [Hw1.out]; exact (Below.refl _ _).alloc (Nat.le_refl _) _
  have hz1 : w.heap.size + 1 = w1.heap.size := by rw [Hw1.out]; simp
  have hk0 : IsBlk w1 w.heap.size 26 #[.int .i64 0, .int .i64 id, .slice Am nm cm, .slice Aw nw cw] := by rw [Hw1.out]; exact IsBlk.laid _ _ _
  have hown1 := idsOwn w1 id (base := w1.heap.size) (g := w.heap.size + 1) hz1 (Nat.le_refl _)
  have Hz1 := Lib.hid hz1; clear hz1
  have hM1 : RowsAt (w1.alloc (.cells #[.int .i64 id] 3)) 1 Am nm cm (more.map irow) := (RowsAt.below hM hb1).below ((Below.refl _ _).alloc (Nat.le_refl _) _)
  have hbe : Below base w w1 := hb1.mono hbase
  by_cases hneg : id < 0
  · go_enter Try.func31, Try.ntmps31
    go_wp2_with (at_builtin; rw [← Hw1.out]; refine wpList_app rfl rfl tyInt rfl hown1 rfl hM1 irow_len irow_one ?_ ?_ ?_ ?_; (unfold maxLen; omega); omega; (simp); intro A3 c3 w3 hown3 hbut3 hf3; have hk3 := start_blk Hz1.out hk0 hbut3; have hk30 := hk3.cell 0; have hk31 := hk3.cell 1; have hk33 := hk3.cell 3; simp at hk30 hk31 hk33; have hlt3 := hk3.lt)
    have hb3 := start_below Hz1.out hb1 hbut3
    refine (ask_any base p A n c T rows id Aw nw cw ws (by omega) (by omega) _ (hT.below hb3) (hW.below hb3)).mono ?_
    intro e w5 hmv
    have hmv' := hmv
    obtain ⟨A', n', c', rows', rfl, _⟩ := hmv
    go_wp2
    go_ret2
    exact Did.mk_ _ (hT.below hb3) (hL.below hb3) (by omega) (hb3.mono hbase) hmv'
  · have hfr := findT_range L id
    have hcall := fun w' (hb : Below w.heap.size w w') => find_ref base A2 n2 c2 L rows2 id w' (hL.below hb)
    obtain ⟨fv, Hfv⟩ : ∃ fv, Hid (findT L id = fv) := ⟨_, rfl⟩
    rw [Hfv.out] at hcall hfr
    have Hcall := Lib.hid hcall; clear hcall
    have hll := hL.lenL
    by_cases hf : 0 ≤ fv
    · go_enter Try.func31, Try.ntmps31
      go_wp2_with (first | (at_builtin; rw [← Hw1.out]; refine wpList_app rfl rfl tyInt rfl hown1 rfl hM1 irow_len irow_one ?_ ?_ ?_ ?_; (unfold maxLen; omega); omega; (simp); intro A3 c3 w3 hown3 hbut3 hf3; have hk3 := start_blk Hz1.out hk0 hbut3; have hk30 := hk3.cell 0; have hk31 := hk3.cell 1; have hk33 := hk3.cell 3; simp at hk30 hk31 hk33; have hlt3 := hk3.lt) | (go_at_call 63; refine (Hcall.out _ (start_below Hz1.out hb1 hbut3)).mono ?_; rintro e w4 ⟨rfl, k4, rfl⟩))
      have hb3 := start_below Hz1.out hb1 hbut3
      have hb4 : Below w.heap.size w (w3.drewN k4) := below_drewN hb3 k4
      refine (ask_any base p A n c T rows id Aw nw cw ws (by omega) (by omega) _ (hT.below hb4) (hW.below hb4)).mono ?_
      intro e w5 hmv
      have hmv' := hmv
      obtain ⟨A', n', c', rows', rfl, _⟩ := hmv
      go_wp2
      go_ret2
      exact Did.mk_ _ (hT.below hb4) (hL.below hb4) (by omega) (hb4.mono hbase) hmv'
    · have hfv : fv = -1 := by omega
      subst hfv
      clear hf hfr
      have hul := unionW_length ws
      have hua := fun w' (hb : Below w.heap.size w w') => union_ref Aw nw cw ws (by have := hW.len; simp at this; omega) w' (hW.below hb)
      obtain ⟨u, Hu⟩ : ∃ u, Hid (unionW ws = u) := ⟨_, rfl⟩
      rw [Hu.out] at hua hul
      have Hua := Lib.hid hua; clear hua
      go_enter Try.func31, Try.ntmps31
      go_wp2_with (first | (at_builtin; rw [← Hw1.out]; refine wpList_app rfl rfl tyInt rfl hown1 rfl hM1 irow_len irow_one ?_ ?_ ?_ ?_; (unfold maxLen; omega); omega; (simp); intro A3 c3 w3 hown3 hbut3 hf3; have hk3 := start_blk Hz1.out hk0 hbut3; have hk30 := hk3.cell 0; have hk31 := hk3.cell 1; have hk33 := hk3.cell 3; simp at hk30 hk31 hk33; have hlt3 := hk3.lt) | (go_at_call 63; refine (Hcall.out _ (start_below Hz1.out hb1 hbut3)).mono ?_; rintro e w4 ⟨rfl, k4, rfl⟩))
      have hb3 := start_below Hz1.out hb1 hbut3
      have hb4 : Below w.heap.size w (w3.drewN k4) := below_drewN hb3 k4
      have hm1 : n2 + 1 ≤ maxLen := by unfold maxLen; omega
      have hm2 : (n2 + 1) * 40 ≤ 140737488355328 := by omega
      go_region_law (first
        | (refine step_app (base := base) (xs := rows2) (news := [[.int .i64 id, .slice A5 u.length c5, .bool false]]) rfl rfl tyLis rfl hown5' rfl hnew (by simp) (by simp [Value.oneCell']) hm1 hm2 hm3 ?_; intro A6 c6 w6 hown6 hbut6 hf6)
        | (go_simp; go_at_call 15; (refine (Hua.out _ (below_drewN hb3 _)).mono ?_; rintro e w5 ⟨A5, c5, rfl, hownU, hb5⟩; have hk51 := (hb5.cell (p := ⟨w.heap.size, 1, none⟩) hlt3).trans hk31; have hk5 := hk3.as_was (hb5.block _ hlt3); have hb05 := (below_drewN hb3 (k4 + 1)).trans (hb5.mono (below_drewN hb3 (k4 + 1)).size); have hL5 := hL.below hb05; have hown5' := hL5.own.alloc (.cells #[.int .i64 id, .slice A5 u.length c5, .bool false] 107); have hnew := newLis w5 A5 u.length c5 id false; have hm3 : base ≤ (w5.alloc (.cells #[.int .i64 id, .slice A5 u.length c5, .bool false] 107)).heap.size := (by have := hb05.size; simp; omega))))
      all_goals
        obtain ⟨hT6, ⟨rows3, hL6⟩, hW6, hk6, hb6⟩ := ask_more hT hL hW hWb hb05 hownU hk5 hown6 hbut6
        have hk61 := hk6.cell 1
        have hk63 := hk6.cell 3
        simp at hk61 hk63
        have hlt6 := hk6.lt
        go_wp2_with fail
        refine (ask_any base p A n c T rows id Aw nw cw ws (by omega) (by omega) _ hT6 hW6).mono ?_
        intro e w7 hmv
        have hmv' := hmv
        obtain ⟨A', n', c', rows', rfl, _⟩ := hmv
        go_wp2
        go_ret2
        exact Did.mk_ _ hT6 hL6 (by omega) hb6 hmv'
end
end Go.Proofs.Ytinpihplkikldaa
