/- Lock, part D: the stable sort; Grow; Concat. -/
import Derived.Test.YtinpihplkikldaaLockC
import Derived.LoopN
import Derived.Lib.AppendZeros
namespace Go.Proofs.Ytinpihplkikldaa
open Go.RowKit Go.Afx

theorem insertion_none (A : Option Addr) (n c m : Nat) (hm : m ≤ 1000) (f : Value) (w : World) :
    Calls Try.prog 101 #[.slice A n c, .int .i64 m, .int .i64 m, f] w fun e w' => e = .returned (.tuple #[]) ∧ w = w' := by
  have hf : decide ((m : Int) + 1 < (m : Int)) = false := by simp; omega
  go_enter Try.func101, Try.ntmps101
  go_wp2
  refine wp_loop_rounds 1 ?_
  rw [rounds_succ]
  go_wp2
  go_end0
  exact ⟨rfl, rfl⟩

set_option maxHeartbeats 400000 in
theorem stable_any (base : Nat) (A : Option Addr) (n c : Nat) (ws : List Wt) (hn : n ≤ 20) (hl : ws.length = n) (w : World) (hown : w.ownsRow base 31 2 (.slice A n c) n (flatW ws)) :
    Calls Try.prog 75 #[.slice A n c, .int .i64 n, .func (.func 41) #[] #[]] w (Sorts base A n c ws w) := by
  by_cases h20 : n < 20
  · have ht : decide ((20 : Int) ≤ (n : Int)) = false := by simp; omega
    have ht2 : decide ((20 : Int) < (n : Int)) = false := by simp; omega
    go_enter Try.func75, Try.ntmps75
    go_wp2
    refine wp_loop_rounds 1 ?_
    rw [rounds_succ]
    go_wp2_with (go_at_call 101; refine (insertion_all base A n c ws (by omega) hl _ hown).mono ?_; rintro e w' ⟨ws', h1, h2, rfl, h3, h4⟩)
    refine wp_loop_rounds 1 ?_
    rw [rounds_succ]
    go_wp2
    go_end0
    exact ⟨ws', h1, h2, rfl, h3, h4⟩
  · obtain rfl : n = 20 := by omega
    go_enter Try.func75, Try.ntmps75
    go_wp2
    refine wp_loop_rounds 2 ?_
    rw [rounds_succ]
    go_wp2_with (go_at_call 101; refine (insertion_all base A 20 c ws (by omega) hl _ hown).mono ?_; rintro e w' ⟨ws', h1, h2, rfl, h3, h4⟩)
    rw [rounds_succ]
    go_wp2_with (go_at_call 101; refine (insertion_none A 20 c 20 (by omega) _ _).mono ?_; rintro e w' ⟨rfl, rfl⟩)
    refine wp_loop_rounds 1 ?_
    rw [rounds_succ]
    go_wp2
    go_end0
    exact ⟨ws', h1, h2, rfl, h3, h4⟩

theorem sortStable_any (base : Nat) (A : Option Addr) (n c : Nat) (ws : List Wt) (hn : n ≤ 20) (hl : ws.length = n) (w : World) (hown : w.ownsRow base 31 2 (.slice A n c) n (flatW ws)) :
    Calls Try.prog 40 #[.slice A n c, .func (.func 41) #[] #[]] w (Sorts base A n c ws w) := by
  go_enter Try.func40, Try.ntmps40
  go_wp2_with (go_at_call 75; refine (stable_any base A n c ws hn hl _ hown).mono ?_; rintro e w' ⟨ws', h1, h2, rfl, h3, h4⟩)
  go_end0
  exact ⟨ws', h1, h2, rfl, h3, h4⟩

theorem tyWant : ElemTy Try.prog 22 31 2 24 (.agg #[.string ByteArray.empty, .bool false]) := ⟨Try.underlying22, by kernel_rfl, rfl, by decide⟩

/-- a slice of the call's own, of so many wants -/
def OwnsW (w : World) (ws : List Wt) (e : Ending) (w' : World) : Prop :=
  ∃ A c, e = .returned (.slice A ws.length c) ∧ w'.ownsRow w.heap.size 31 2 (.slice A ws.length c) ws.length (flatW ws) ∧ Below w.heap.size w w'

theorem grow_any (n : Nat) (hn : n ≤ 1000) (w : World) :
    Calls Try.prog 74 #[.slice none 0 0, .int .i64 n] w (OwnsW w []) := by
  obtain ⟨i, hi, hz, hsz, hby⟩ := tyWant.at_
  have hneg : decide ((n : Int) < 0) = false := by simp
  rcases Nat.eq_zero_or_pos n with rfl | h0
  · go_enter Try.func74, Try.ntmps74
    go_wp2
    go_ret
    exact ⟨none, 0, rfl, World.ownsRow_nil _ _ _ _, Below.refl _ _⟩
  · have hr := fun (W : World) (ty : TypeId) => Lib.run_append_nil_zeros (P := Try.prog) W 22 3 ty 31 i _ .i64 .i64 Try.underlying22 Try.underlying3 hi hz n h0 (by omega) (by omega) (by rw [hby]; omega)
    have Hr := Lib.hid hr; clear hr
    go_enter Try.func74, Try.ntmps74
    go_wp2_with (at_builtin; refine Lib.wpList_append_run _ rfl _ _ _ _ rfl _ _ rfl rfl _ _ (Hr.out _ _) ?_)
    go_ret
    refine ⟨some ⟨w.heap.size, 0, none⟩, grownCap w n 0 31, rfl, ?_, ((Below.refl _ _).alloc (Nat.le_refl _) _).drew⟩
    refine (World.ownsRow_made w _ _ (Nat.le_refl _) (grownCap_le_maxLen w n 0 _ (by unfold maxLen; omega)) ?_).drew
    have hge := grownCap_ge w n 0 31
    simp only [Array.size_append, size_zeroCells, List.size_toArray, List.length_cons, List.length_nil]
    omega

/-- a slice of slices of wants -/
def ListsAt (w : World) (A : Option Addr) (n c : Nat) (lls : List (List Wt)) : Prop :=
  ∃ rows, RowsAt w 1 A n c rows ∧ lls.length = n ∧ ∀ (k : Nat) (ws : List Wt), lls[k]? = some ws → ∃ A' n' c', rows[k]? = some [.slice A' n' c'] ∧ WAt w A' n' c' ws

theorem ListsAt.get {w : World} {A : Option Addr} {n c : Nat} {lls : List (List Wt)} (h : ListsAt w A n c lls) {k : Nat} (hk : k < n) :
    ∃ b o A' c' ws, A = some ⟨b, o, none⟩ ∧ b < w.heap.size ∧ lls[k]? = some ws ∧ w.cell? ⟨b, o + k, none⟩ = some (.slice A' ws.length c') ∧ WAt w A' ws.length c' ws := by
  obtain ⟨rows, hr, hl, hh⟩ := h
  have e : lls[k]? = some lls[k] := List.getElem?_eq_getElem (by omega)
  obtain ⟨A', n', c', hrk, hw⟩ := hh k _ e
  have hn' : lls[k].length = n' := by have := hw.len; simpa using this
  subst hn'
  obtain ⟨b, o, rfl, hb, hc⟩ := hr.one hrk
  exact ⟨b, o, A', c', _, rfl, hb, e, hc, hw⟩
theorem ListsAt.below {w w' : World} {A : Option Addr} {n c : Nat} {lls : List (List Wt)} (h : ListsAt w A n c lls) (hb : Below w.heap.size w w') : ListsAt w' A n c lls := by
  obtain ⟨rows, hr, hl, hh⟩ := h
  refine ⟨rows, hr.below hb, hl, fun k ws hk => ?_⟩
  obtain ⟨A', n', c', h1, h2⟩ := hh k ws hk
  exact ⟨A', n', c', h1, h2.below hb⟩
theorem ListsAt.n_le {w : World} {A : Option Addr} {n c : Nat} {lls : List (List Wt)} (h : ListsAt w A n c lls) : n ≤ 9223372036854775807 := by
  obtain ⟨rows, hr, _⟩ := h; exact hr.n_le

/-- the first k lists, one behind the other -/
def preL (lls : List (List Wt)) (k : Nat) : List Wt := (lls.take k).flatten
theorem preL_succ {lls : List (List Wt)} {k : Nat} {ws : List Wt} (h : lls[k]? = some ws) : preL lls (k + 1) = preL lls k ++ ws := by
  unfold preL; rw [take_succ_of h]; simp
theorem preL_le (lls : List (List Wt)) (k : Nat) : (preL lls k).length ≤ lls.flatten.length := by
  have h : lls.flatten = preL lls k ++ (lls.drop k).flatten := by unfold preL; rw [← List.flatten_append, List.take_append_drop]
  rw [h, List.length_append]; omega
theorem preL_all {lls : List (List Wt)} {k : Nat} (h : lls.length ≤ k) : preL lls k = lls.flatten := by unfold preL; rw [List.take_of_length_le h]

theorem wrow_len : ∀ {ws : List Wt} (r : List Value), r ∈ ws.map wrow → r.length = 2 := by
  intro ws r hr; obtain ⟨p, _, rfl⟩ := List.mem_map.1 hr; rfl
theorem wrow_one : ∀ {ws : List Wt} (r : List Value), r ∈ ws.map wrow → ∀ u ∈ r, u.oneCell' = true := by
  intro ws r hr u hu
  obtain ⟨p, _, rfl⟩ := List.mem_map.1 hr
  simp only [wrow, List.mem_cons, List.not_mem_nil, or_false] at hu
  rcases hu with rfl | rfl <;> rfl

set_option maxHeartbeats 400000 in
theorem concat_any (A : Option Addr) (n c : Nat) (lls : List (List Wt)) (hbig : lls.flatten.length ≤ 1000) (w : World) (hl : ListsAt w A n c lls) :
    Calls Try.prog 39 #[.slice A n c] w (OwnsW w lls.flatten) := by
  have hn := hl.n_le
  have ll : lls.length = n := by obtain ⟨_, _, h, _⟩ := hl; exact h
  have Ll := Lib.hid ll; clear ll
  have HB : w.heap.size ≤ w.heap.size := Nat.le_refl _
  go_enter Try.func39, Try.ntmps39
  go_wp2
  go_loop [3, 11] (fun sz i => ∃ k : Nat, k ≤ n ∧ i = .int .i64 k ∧ sz = .int .i64 ((preL lls k).length : Nat)) (fun _ i => n - (intOf i).toNat)
  case atStart => exact ⟨0, Nat.zero_le _, rfl, rfl⟩
  case round =>
    obtain ⟨k, hk, rfl, rfl⟩ := hrel
    by_cases hlt : k < n
    · obtain ⟨b, o, A', c', ws, rfl, hb, hlk, hc, hw⟩ := hl.get hlt
      have Hlk := Lib.hid hlk; clear hlk
      have hle := preL_le lls (k + 1)
      have hsum : Hid ((preL lls (k + 1)).length = (preL lls k).length + ws.length) := Lib.hid (by rw [preL_succ Hlk.out, List.length_append])
      have hle1 : (preL lls k).length + ws.length ≤ 1000 := by have := hsum.out; omega
      have hle2 : (preL lls k).length ≤ 1000 := by omega
      have hle3 : ws.length ≤ 1000 := by omega
      have hng : decide ((((preL lls k).length : Nat) : Int) + ((ws.length : Nat) : Int) < 0) = false := by simp; omega
      clear hle
      generalize (preL lls k).length = sk at *
      go_wp2
      go_round
      case rel => exact ⟨k + 1, by omega, by go_num, by rw [hsum.out]; go_num⟩
      case measure => simp [intOf]; omega
    · obtain rfl : k = n := by omega
      have hfl : (preL lls k).length = lls.flatten.length := by rw [preL_all (by have := Ll.out; omega)]
      rw [hfl]
      clear hfl
      generalize hgl : lls.flatten.length = L at *
      have Hgl := Lib.hid hgl; clear hgl
      go_wp2_with (go_at_call 74; refine (grow_any L hbig _).mono ?_; rintro e w' ⟨A1, c1, rfl, hown1, hb1⟩)
      go_loopw [6, 27] (fun v i wr => ∃ (k' : Nat) (A2 : Option Addr) (c2 : Nat), k' ≤ k ∧ i = .int .i64 k' ∧ v = .slice A2 (preL lls k').length c2 ∧ wr.ownsRow w.heap.size 31 2 (.slice A2 (preL lls k').length c2) (preL lls k').length (flatW (preL lls k')) ∧ Below w.heap.size w wr) (fun _ i _ => k - (intOf i).toNat)
      case atStart => exact ⟨0, A1, c1, by omega, rfl, rfl, hown1, hb1⟩
      case round =>
        obtain ⟨k', A2, c2, hk', rfl, rfl, hown2, hb2⟩ := hrel
        by_cases hlt' : k' < k
        · obtain ⟨b, o, A', c', ws, rfl, hb, hlk, hc, hw⟩ := (hl.below hb2).get hlt'
          have Hlk := Lib.hid hlk; clear hlk
          have hle := preL_le lls (k' + 1)
          have hsum : Hid ((preL lls (k' + 1)).length = (preL lls k').length + ws.length) := Lib.hid (by rw [preL_succ Hlk.out, List.length_append])
          have hle1 : (preL lls k').length + ws.length ≤ 1000 := by have := hsum.out; have := Hgl.out; omega
          clear hle
          have hsz := hb2.size
          go_wp2_with (at_builtin; refine wpList_app rfl rfl tyWant rfl hown2 rfl hw wrow_len wrow_one ?_ ?_ hsz ?_; (unfold maxLen; omega); omega; intro A3 c3 w3 hown3 hbut3 hf3)
          go_roundw
          case rel =>
            refine ⟨k' + 1, A3, c3, by omega, by go_num, by rw [hsum.out], ?_, ?_⟩
            · rw [preL_succ Hlk.out, List.length_append]
              rw [← List.map_append] at hown3
              exact hown3
            · exact hb2.trans (hbut3.below' hsz (fun i hi => by
                cases A2 with
                | none => cases hi
                | some a2 => have h := hown2.lt a2.block rfl; simp at hi; omega))
          case measure => simp [intOf]; omega
        · go_wp2
          go_ret
          obtain rfl : k' = k := by omega
          have hfl : (preL lls k') = lls.flatten := by rw [preL_all (by have := Ll.out; omega)]
          rw [hfl] at hown2
          exact ⟨A2, c2, by rw [hfl]; rfl, hown2, hb2⟩
end Go.Proofs.Ytinpihplkikldaa
