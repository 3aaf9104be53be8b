/- Lock, part K: Ask. -/
import Derived.Test.YtinpihplkikldaaLockJ
import Derived.Deep.RegionLaw
namespace Go.Proofs.Ytinpihplkikldaa
open Go.RowKit Go.Afx

/-- 'append' as one step of a region that draws -/
theorem step_app {P : Program} {w : World} {ops : Array Oper} {o : Oper} {a : Act} {K : Act → World → Prop} {Q : Exit → Act → World → Prop} {E : Prop} (hgd : o.guard = none) {s x : Operand} {t : TypeId}
    (ho : o.op = .call { callee := .builtin .append, args := #[s, x], argTypes := #[t, t] })
    {base : Nat} {e : TypeId} {sz bytes : Nat} {z : Value} (hT : ElemTy P t e sz bytes z)
    {A : Option Addr} {n c : Nat} {xs : List (List Value)} (hs : a.eval s = .slice A n c) (hown : w.ownsRow base e sz (.slice A n c) n xs.flatten)
    {A' : Option Addr} {m c' : Nat} {news : List (List Value)} (hx : a.eval x = .slice A' m c') (hnews : RowsAt w sz A' m c' news) (hlen : ∀ r ∈ news, r.length = sz) (h1 : ∀ r ∈ news, ∀ u ∈ r, u.oneCell' = true)
    (h63 : n + m ≤ maxLen) (hbytes : (n + m) * bytes ≤ 140737488355328) (hbase : base ≤ w.heap.size)
    (h : ∀ A2 c2 w', w'.ownsRow base e sz (.slice A2 (n + m) c2) (n + m) (xs ++ news).flatten → But (fun k => A.map (·.block) = some k) w w' → (∀ a2, A2 = some a2 → A = some a2 ∨ w.heap.size ≤ a2.block) → K (a.put o.dst (.slice A2 (n + m) c2)) w') :
    if Region.wanted o (yielded ops a.tmps) = true then Oper.wp P o a w K Q else E := by
  have hw : Region.wanted o (yielded ops a.tmps) = true := by simp [Region.wanted, hgd]
  rw [if_pos hw]
  obtain ⟨A2, c2, w', hr, hown', hb, hf⟩ := run_app (P := P) o.type hT hown hnews hlen h1 h63 hbytes hbase
  unfold Oper.wp execOp
  simp only [ho, resolve, invoke, builtin, Sem.run_bind, Sem.run_pure, Result.andThen_ok, List.map_toArray, List.map_cons, List.map_nil, hs, hx, hr]
  exact h A2 c2 w' hown' hb hf

theorem RowsAt.drew {w : World} {sz : Nat} {A : Option Addr} {n c : Nat} {xs : List (List Value)} (h : RowsAt w sz A n c xs) : RowsAt w.drew sz A n c xs := ⟨h.len, h.cap, h.max, h.at_⟩
theorem ListsAt.drew {w : World} {A : Option Addr} {n c : Nat} {lls : List (List Wt)} (h : ListsAt w A n c lls) : ListsAt w.drew A n c lls := by
  obtain ⟨rows, hr, hl, hh⟩ := h
  exact ⟨rows, RowsAt.drew hr, hl, fun k ws hk => by
    obtain ⟨A', n', c', h1, h2⟩ := hh k ws hk
    exact ⟨A', n', c', h1, RowsAt.drew h2⟩⟩
theorem TblAt.drew {w : World} {base p n c : Nat} {A : Option Addr} {T : List AskD} {rows : List (List Value)} (h : TblAt w base p A n c T rows) : TblAt w.drew base p A n c T rows :=
  ⟨h.blk, h.hp, h.own, h.lenT, h.lenR, h.apart, fun k a hk => by
    obtain ⟨Ak, nk, ck, h1, h2, h3⟩ := h.at_ k a hk
    exact ⟨Ak, nk, ck, h1, RowsAt.drew h2, h3⟩⟩

theorem lists_one {w : World} {A : Option Addr} {n c g : Nat} {T : TypeId} {ws : List Wt} (hg : g = w.heap.size) (h : WAt w A n c ws) : ListsAt (w.alloc (.cells #[.slice A n c] T)) (some ⟨g, 0, none⟩) 1 1 [ws] := by
  refine ⟨[[.slice A n c]], RowsAt.lit' _ _ 1 hg rfl (by simp) rfl (by unfold maxLen; omega), rfl, fun k ws' hk => ?_⟩
  cases k with
  | zero =>
    simp at hk; subst hk
    exact ⟨A, n, c, rfl, h.below ((Below.refl _ _).alloc (Nat.le_refl _) _)⟩
  | succ k => simp at hk

theorem tyAsk : ElemTy Try.prog 102 113 3 40 (.agg #[.slice none 0 0, .int .i64 0, .bool false]) := ⟨Try.underlying102, by kernel_rfl, rfl, by decide⟩

theorem WAt.lt {w : World} {A : Option Addr} {n c : Nat} {ws : List Wt} (h : WAt w A n c ws) (hn : 0 < n) : ∀ ad, A = some ad → ad.block < w.heap.size := by
  intro ad hA
  obtain ⟨b, o, _, _, hb, hlt, _⟩ := h.get hn
  rw [hA] at hb
  injection hb with hb
  subst hb
  exact hlt

theorem TblAt.push {w2 w3 : World} {base p n c c2 c3 : Nat} {A A2 A3 : Option Addr} {T : List AskD} {rows : List (List Value)} {a : AskD} {o : Obj} {T3 : TypeId} (h : TblAt w2 base p A n c T rows) (hT3 : T3 = 113)
    (hw : WAt w2 A2 a.ws.length c2 a.ws) (hst : a.ws.Pairwise fun p q => ltW p q = true) (h1000 : a.ws.length ≤ 1000) (hap : ∀ ad, A2 = some ad → 0 < a.ws.length → ∃ cs, IsBlk w2 ad.block 31 cs)
    (hown : w3.ownsRow base T3 3 (.slice A3 (n + 1) c3) (n + 1) (rows ++ [[Value.slice A2 a.ws.length c2, .int .i64 a.id, .bool a.held]]).flatten) (hbut : But (fun k => A.map (·.block) = some k) (w2.alloc o) w3)
    (hf : ∀ a2, A3 = some a2 → A = some a2 ∨ (w2.alloc o).heap.size ≤ a2.block) :
    TblAt (w3.setCell ⟨p, 0, none⟩ (.slice A3 (n + 1) c3)) base p A3 (n + 1) c3 (T ++ [a]) (rows ++ [[Value.slice A2 a.ws.length c2, .int .i64 a.id, .bool a.held]]) := by
  subst hT3
  have hplt := h.blk.lt
  have hAp : ¬ A.map (·.block) = some p := by
    cases A with
    | none => simp
    | some a => simpa using h.apart a rfl
  have hblk3 : IsBlk w3 p 104 #[.slice A n c] := (hbut.block p (by simp; omega) hAp).trans (h.blk.alloc o)
  have hA3p : ∀ a, A3 = some a → a.block ≠ p := fun a ha => by
    rcases hf a ha with e | e
    · exact h.apart a e
    · simp at e; omega
  have keep : ∀ (Ak : Option Addr) (nk ck : Nat) (ws : List Wt), WAt w2 Ak nk ck ws → (∀ ad, Ak = some ad → 0 < nk → ∃ cs, IsBlk w2 ad.block 31 cs) →
      WAt (w3.setCell ⟨p, 0, none⟩ (.slice A3 (n + 1) c3)) Ak nk ck ws ∧ (∀ ad, Ak = some ad → 0 < nk → ∃ cs, IsBlk (w3.setCell ⟨p, 0, none⟩ (.slice A3 (n + 1) c3)) ad.block 31 cs) := fun Ak nk ck ws hwk hapk => by
    have h1 : WAt (w2.alloc o) Ak nk ck ws := hwk.below ((Below.refl _ _).alloc (Nat.le_refl _) _)
    have hoff : ∀ ad, Ak = some ad → 0 < nk → ad.block ≠ p ∧ A.map (·.block) ≠ some ad.block := fun ad e h0 => by
      obtain ⟨cs, hc⟩ := hapk ad e h0
      exact h.off hc
    have h2 : WAt w3 Ak nk ck ws := RowsAt.but h1 hbut (fun ad e h0 => (hoff ad e h0).2)
    have h3 : WAt (w3.setCell ⟨p, 0, none⟩ (.slice A3 (n + 1) c3)) Ak nk ck ws := RowsAt.but h2 ((But.refl (fun k => k = p) w3).setCell (.inl rfl) _) (fun ad e h0 => (hoff ad e h0).1)
    refine ⟨h3, fun ad e h0 => ?_⟩
    obtain ⟨cs, hc⟩ := hapk ad e h0
    have hc2 := hc.alloc o
    have hc3 : IsBlk w3 ad.block 31 cs := hc2.as_was (hbut.block _ hc2.lt (hoff ad e h0).2)
    exact ⟨cs, hc3.elsewhere (p := ⟨p, 0, none⟩) (hoff ad e h0).1 _⟩
  refine ⟨?_, h.hp, own_but hown ((But.refl (fun k => k = p) w3).setCell (.inl rfl) _) ?_, by rw [List.length_append, h.lenT]; rfl, by rw [List.length_append, h.lenR]; rfl, hA3p, ?_⟩
  · have := hblk3.stored 0 (.slice A3 (n + 1) c3)
    simpa using this
  · intro g hg
    cases A3 with
    | none => simp [Value.ownBlock] at hg
    | some a3 => simp [Value.ownBlock] at hg; subst hg; exact hA3p a3 rfl
  · intro k b hk
    rcases Nat.lt_or_ge k n with hlt | hge
    · rw [List.getElem?_append_left (by rw [h.lenT]; exact hlt)] at hk
      obtain ⟨Ak, nk, ck, hr, hwk, hsk, hlk, hapk⟩ := h.at_ k b hk
      obtain ⟨k1, k2⟩ := keep Ak nk ck _ hwk hapk
      exact ⟨Ak, nk, ck, by rw [List.getElem?_append_left (by rw [h.lenR]; exact hlt)]; exact hr, k1, hsk, hlk, k2⟩
    · rw [List.getElem?_append_right (by rw [h.lenT]; exact hge), h.lenT] at hk
      obtain ⟨h0, rfl⟩ : k - n = 0 ∧ a = b := by
        cases hkn : k - n with
        | zero => rw [hkn] at hk; simp at hk; exact ⟨rfl, hk⟩
        | succ m => rw [hkn] at hk; simp at hk
      obtain ⟨k1, k2⟩ := keep A2 _ c2 _ hw hap
      exact ⟨A2, _, c2, by rw [List.getElem?_append_right (by rw [h.lenR]; exact hge), h.lenR, h0]; rfl, k1, hst, h1000, k2⟩

theorem newAsk (w : World) (A : Option Addr) (n c : Nat) (id : Int) : RowsAt (w.alloc (.cells #[.slice A n c, .int .i64 id, .bool false] 113)) 3 (some ⟨w.heap.size, 0, none⟩) 1 1 [[.slice A n c, .int .i64 id, .bool false]] :=
  RowsAt.lit _ _ 1 rfl (by simp) rfl (by unfold maxLen; omega)
theorem askBase {w : World} {base p n c : Nat} {A : Option Addr} {T : List AskD} {rows : List (List Value)} (h : TblAt w base p A n c T rows) (o : Obj) : base ≤ (w.alloc o).heap.size := by
  have := h.hp; have := h.blk.lt; simp; omega

/-- what becomes of a table -/
def Moved (base p : Nat) (A : Option Addr) (T' : List AskD) (v : Value) (w : World) (e : Ending) (w' : World) : Prop :=
  ∃ A' n' c' rows', e = .returned v ∧ TblAt w' base p A' n' c' T' rows' ∧ But (foot p A) w w' ∧ (∀ a, A' = some a → A = some a ∨ w.heap.size ≤ a.block)

theorem Moved.same {base p n c : Nat} {A : Option Addr} {T : List AskD} {rows : List (List Value)} {w w' : World} {v : Value} (h : TblAt w base p A n c T rows) (hb : Below w.heap.size w w') : Moved base p A T v w (.returned v) w' :=
  ⟨A, n, c, rows, rfl, h.below hb, But.of_below hb, fun _ ha => .inl ha⟩

theorem ask_end {w w1 w2 w3 : World} {base p n c c2 c3 : Nat} {A A2 A3 : Option Addr} {T : List AskD} {rows : List (List Value)} {u : List Wt} {id : Int} {o o1 : Obj} {v : Value}
    (hT : TblAt w base p A n c T rows) (hb1 : Below w.heap.size w w1) (hT2 : TblAt w2 base p A n c T rows) (hb2 : Below (w1.alloc o1).drew.heap.size (w1.alloc o1).drew w2)
    (hownU : w2.ownsRow (w1.alloc o1).drew.heap.size 31 2 (.slice A2 u.length c2) u.length (flatW u)) (hst : u.Pairwise fun p q => ltW p q = true) (hul : u.length ≤ 1000)
    (hown : w3.ownsRow base 113 3 (.slice A3 (n + 1) c3) (n + 1) (rows ++ [[Value.slice A2 u.length c2, .int .i64 id, .bool false]]).flatten) (hbut : But (fun k => A.map (·.block) = some k) (w2.alloc o) w3)
    (hf : ∀ a2, A3 = some a2 → A = some a2 ∨ (w2.alloc o).heap.size ≤ a2.block) :
    Moved base p A (T ++ [{ ws := u, id := id, held := false }]) v w (.returned v) (w3.setCell ⟨p, 0, none⟩ (.slice A3 (n + 1) c3)) := by
  have hz1 := hb1.size
  have hz2 := hb2.size
  have e1 : (w1.alloc o1).drew.heap.size = w1.heap.size + 1 := by simp
  have hpl := hT.blk.lt
  have hpush := hT2.push (a := { ws := u, id := id, held := false }) rfl (WAt.of_own hownU rfl) hst hul (fun ad e h0 => by
    subst e
    exact own_blk hownU) hown hbut hf
  have hbw : Below w.heap.size w w2 := hb1.trans ((((Below.refl w1.heap.size w1).alloc (Nat.le_refl _) o1).drew.trans (hb2.mono (by omega))).mono hz1)
  refine ⟨A3, n + 1, c3, _, rfl, hpush, ?_, ?_⟩
  · refine (But.of_below ((hbw.alloc hbw.size o))).trans ((But.mono (S' := foot p A) hbut fun i hi => .inl (.inr hi)).setCell (.inl (.inl rfl)) _) fun i hi => .inl hi
  · intro a ha
    rcases hf a ha with e | e
    · exact .inl e
    · right; simp at e; omega

def askT (T : List AskD) (id : Int) (ws : List Wt) : Int × List AskD :=
  if id < 0 then (1, T) else if 0 ≤ findT T id then (9, T) else (0, T ++ [{ ws := unionW ws, id := id, held := false }])

set_option maxRecDepth 100000 in
set_option maxHeartbeats 2000000 in
theorem ask_any (base p : Nat) (A : Option Addr) (n c : Nat) (T : List AskD) (rows) (id : Int) (A' : Option Addr) (n' c' : Nat) (ws : List Wt) (hn : n ≤ 100000) (hws : ws.length ≤ 20) (w : World)
    (hT : TblAt w base p A n c T rows) (hW : WAt w A' n' c' ws) :
    Calls Try.prog 38 #[.pointer (some ⟨p, 0, none⟩), .int .i64 id, .slice A' n' c'] w (Moved base p A (askT T id ws).2 (.int .i64 (askT T id ws).1) w) := by
  by_cases hneg : id < 0
  · have e : askT T id ws = (1, T) := by simp [askT, hneg]
    rw [e]
    go_enter Try.func38, Try.ntmps38
    go_wp2
    go_ret
    exact Moved.same hT (Below.refl _ _)
  · have hfr := findT_range T id
    have hfn := hT.lenT
    obtain ⟨fv, Hfv⟩ : ∃ fv, Hid (findT T id = fv) := ⟨_, rfl⟩
    by_cases hf : 0 ≤ findT T id
    · have e : askT T id ws = (9, T) := by simp [askT, hneg, hf]
      rw [e]
      have hcall := find_any base p A n c T rows id w hT
      rw [Hfv.out] at hcall hf
      have Hcall := Lib.hid hcall; clear hcall hfn hfr
      go_enter Try.func38, Try.ntmps38
      go_wp2_with (go_at_call 68; refine Hcall.out.mono ?_; rintro e w1 ⟨rfl, hb1⟩)
      go_ret
      exact Moved.same hT hb1
    · have e : askT T id ws = (0, T ++ [{ ws := unionW ws, id := id, held := false }]) := by simp [askT, hneg, hf]
      rw [e]
      have hcall := find_any base p A n c T rows id w hT
      rw [Hfv.out] at hcall hf
      have Hcall := Lib.hid hcall; clear hcall hfn hfr
      go_enter Try.func38, Try.ntmps38
      go_wp2_with (go_at_call 68; refine Hcall.out.mono ?_; rintro e w1 ⟨rfl, hb1⟩)
      have hT1 := hT.below hb1
      have hW1 := hW.below hb1
      have hcp1 := hT1.cell
      have hpl1 := hT1.blk.lt
      have hul := unionW_length ws
      have hustr := (unionW_says ws).1
      generalize hu : unionW ws = u at *
      have hul : u.length ≤ 1000 := by omega
      have hAp : ¬ A.map (·.block) = some p := by
        cases A with
        | none => simp
        | some a => simpa using hT.apart a rfl
      have hm1 : n + 1 ≤ maxLen := by unfold maxLen; omega
      have hm2 : (n + 1) * 40 ≤ 140737488355328 := by omega
      go_region_law (first
        | (refine step_app (base := base) (xs := rows) (news := [[.slice A2 u.length c2, .int .i64 id, .bool false]]) rfl rfl tyAsk rfl hown2 rfl hnew (by simp) (by simp [Value.oneCell']) hm1 hm2 hm3 ?_; intro A3 c3 w3 hown3 hbut3 hf3; have hcp3 := (hbut3.cell (p := ⟨p, 0, none⟩) hpl3 hAp).trans hcp2'; have hfz3 := (hbut3.frozen (p := ⟨p, 0, none⟩) hpl3 hAp).trans hfz2')
        | (go_simp; go_at_call 14; refine (union_any _ _ _ [ws] (by simpa using hws) _ ((lists_one rfl hW1).drew)).mono ?_; rintro e w2 ⟨A2, c2, he, hownU, hb2⟩; (have hfl : [ws].flatten = ws := by simp); rw [hfl, hu] at he hownU; subst he; have hT2 : TblAt w2 base p A n c T rows := (((hT1.below ((Below.refl _ _).alloc (Nat.le_refl _) (.cells #[.slice A' n' c'] 22))).drew).below hb2); have hcp2 := hT2.cell; have hpl2 := hT2.blk.lt; have hfz2 := hT2.frozen; have hown2' := hownU; have hown2 := hT2.own.alloc (.cells #[.slice A2 u.length c2, .int .i64 id, .bool false] 113); have hcp2' := (World.cell?_alloc_lt w2 (.cells #[.slice A2 u.length c2, .int .i64 id, .bool false] 113) ⟨p, 0, none⟩ hpl2).trans hcp2; have hblk2' := hT2.blk.alloc (.cells #[.slice A2 u.length c2, .int .i64 id, .bool false] 113); have hfz2' := hblk2'.frozen 0; have hpl3 := hblk2'.lt; have hnew := newAsk w2 A2 u.length c2 id; have hm3 := askBase hT2 (.cells #[.slice A2 u.length c2, .int .i64 id, .bool false] 113)))
      all_goals
        go_wp2
        go_ret
        exact ask_end hT hb1 hT2 hb2 hown2' hustr hul hown3 hbut3 hf3
end Go.Proofs.Ytinpihplkikldaa
