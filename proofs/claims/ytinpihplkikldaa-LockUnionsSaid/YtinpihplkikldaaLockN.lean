/- Lock, part N: the walk of LockUnions. -/
import Derived.Test.YtinpihplkikldaaLockM
import Derived.Test.YtinpihplkikldaaLockG
import Derived.Test.YtinpihplkikldaaLockB
namespace Go.Proofs.Ytinpihplkikldaa
open Go.RowKit Go.Afx

theorem WAt.lenEq {w : World} {A : Option Addr} {n c : Nat} {ws : List Wt} (h : WAt w A n c ws) : ws.length = n := by have := RowsAt.len h; simpa using this

/-- slices of wants, laid us a literal -/
theorem lists_lit {w : World} {T : TypeId} {g : Nat} (l : List (Option Addr × Nat × Nat × List Wt)) (hg : g = w.heap.size) (hm : l.length ≤ 1000) (h : ∀ x ∈ l, WAt w x.1 x.2.1 x.2.2.1 x.2.2.2) (cs : Array Value) (hcs : cs.toList = l.map fun x => .slice x.1 x.2.1 x.2.2.1) :
    ListsAt (w.alloc (.cells cs T)) (some ⟨g, 0, none⟩) l.length l.length (l.map fun x => x.2.2.2) := by
  refine ⟨l.map fun x => [.slice x.1 x.2.1 x.2.2.1], RowsAt.lit' cs _ _ hg ?_ ?_ (by simp) (by unfold maxLen; omega), by simp, fun k ws hk => ?_⟩
  · rw [hcs]
    clear hcs hm h
    induction l with
    | nil => rfl
    | cons x l ih => simp [ih]
  · intro r hr; obtain ⟨x, _, rfl⟩ := List.mem_map.1 hr; rfl
  · rw [List.getElem?_map] at hk
    obtain ⟨x, hx, rfl⟩ := Option.map_eq_some_iff.1 hk
    exact ⟨_, _, _, by rw [List.getElem?_map, hx]; rfl, (h x (List.mem_of_getElem? hx)).below ((Below.refl _ _).alloc (Nat.le_refl _) _)⟩

theorem acts_two {w : World} {A A' : Option Addr} {n c n' c' g : Nat} {us vs : List Wt} (hg : g = w.heap.size) (ha : WAt w A n c us) (hb : WAt w A' n' c' vs) :
    ActsAt (w.alloc (.cells #[.int .i64 0, .int .i64 0, .slice none 0 0, .slice A n c, .int .i64 0, .int .i64 0, .slice none 0 0, .slice A' n' c'] 26)) (some ⟨g, 0, none⟩) 2 2 [⟨0, 0, [], us⟩, ⟨0, 0, [], vs⟩] := by
  have hbel : ∀ o, Below w.heap.size w (w.alloc o) := fun o => (Below.refl _ _).alloc (Nat.le_refl _) o
  refine ⟨[[.int .i64 0, .int .i64 0, .slice none 0 0, .slice A n c], [.int .i64 0, .int .i64 0, .slice none 0 0, .slice A' n' c']], RowsAt.lit' _ _ _ hg rfl (by simp) rfl (by unfold maxLen; omega), rfl, fun k a hk => ?_⟩
  match k with
  | 0 => simp at hk; subst hk; exact ⟨_, rfl, none, 0, 0, A, n, c, rfl, RowsAt.nil_ _ _, ha.below (hbel _)⟩
  | 1 => simp at hk; subst hk; exact ⟨_, rfl, none, 0, 0, A', n', c', rfl, RowsAt.nil_ _ _, hb.below (hbel _)⟩
  | k + 2 => simp at hk

theorem WAt.one_of {w : World} {b o c : Nat} {a : ByteArray} {x : Bool} (hb : b < w.heap.size) (h0 : w.cell? ⟨b, o, none⟩ = some (.string a)) (h1 : w.cell? ⟨b, o + 1, none⟩ = some (.bool x)) (hc1 : 1 ≤ c) (hc2 : c ≤ maxLen) : WAt w (some ⟨b, o, none⟩) 1 c [(a, x)] :=
  ⟨rfl, hc1, hc2, fun k row hk => by
    cases k with
    | zero =>
      simp [wrow] at hk; subst hk
      refine ⟨b, o, rfl, hb, fun j u hu => ?_⟩
      match j with
      | 0 => simp at hu; subst hu; simpa using h0
      | 1 => simp at hu; subst hu; simpa using h1
      | j + 2 => simp at hu
    | succ k => simp at hk⟩

theorem appB (wr : World) (T : TypeId) (w3 : World) (h : But (fun k => (some (⟨wr.heap.size, 0, none⟩ : Addr)).map (·.block) = some k) (wr.alloc (.cells #[] T)) w3) : Below wr.heap.size wr w3 :=
  ((Below.refl _ _).alloc (Nat.le_refl _) _).trans (h.below' (by simp) (fun i hi => by simp at hi; omega))
theorem appB2 {wr w3 w4 : World} {A : Option Addr} {n c sz : Nat} {T : TypeId} {xs : List Value} (hb : Below wr.heap.size wr w3) (hown : w3.ownsRow wr.heap.size T sz (.slice A n c) n xs) (h : But (fun k => A.map (·.block) = some k) w3 w4) : Below wr.heap.size wr w4 :=
  hb.trans (h.below' hb.size (fun i hi => by
    cases A with
    | none => cases hi
    | some a2 => have h := hown.lt a2.block rfl; simp at hi; omega))
theorem draw_alloc {f : FuncId} {args : Array Value} {w : World} {m : Nat} {o : Obj} {R : Ending → World → Prop} (h : Calls Try.prog f args ((w.drewN m).alloc o) R) : Calls Try.prog f args ((w.alloc o).drewN m) R := h

set_option maxRecDepth 100000 in
set_option maxHeartbeats 8000000 in
theorem unions_walk (A A' : Option Addr) (n c n' c' : Nat) (us vs : List Wt) (w : World) (ha : WAt w A n c us) (hb : WAt w A' n' c' vs) :
    Calls Try.prog 3 #[.slice A n c, .slice A' n' c'] w fun e w' => e = .returned (.bool true) ∧ Below w.heap.size w w' := by
  have hla := ha.lenEq
  have hlb := hb.lenEq
  have hna := RowsAt.n_le ha
  have hnb := RowsAt.n_le hb
  have hb0 : Below w.heap.size w (w.alloc (.cells #[.int .i64 0, .int .i64 0, .slice none 0 0, .slice A n c, .int .i64 0, .int .i64 0, .slice none 0 0, .slice A' n' c'] 26)) := (Below.refl _ _).alloc (Nat.le_refl _) _
  have hgr := great_ref _ 2 2 _ _ (acts_two (g := w.heap.size) rfl ha hb)
  by_cases hg : greatL [⟨0, 0, [], us⟩, ⟨0, 0, [], vs⟩] = true
  · rw [hg] at hgr
    have Hgr := Lib.hid hgr; clear hgr hg hla hlb
    go_enter Try.func3, Try.ntmps3
    go_wp2_with (first | (go_at_call 9; refine Hgr.out.mono ?_; rintro e w1 ⟨rfl, rfl⟩) | (go_at_call 10; refine (awake_any _).mono ?_; rintro e w2 ⟨rfl, hb2⟩))
    go_ret
    exact ⟨rfl, hb0.trans (hb2.mono hb0.size)⟩
  · have hg : greatL [⟨0, 0, [], us⟩, ⟨0, 0, [], vs⟩] = false := by simpa using hg
    rw [hg] at hgr
    have hn10 : n ≤ 10 := by simp [greatL, great1] at hg; omega
    have hn10' : n' ≤ 10 := by simp [greatL, great1] at hg; omega
    have Hgr := Lib.hid hgr; clear hgr hg
    have Hla := Lib.hid hla; clear hla
    have Hlb := Lib.hid hlb; clear hlb
    go_enter Try.func3, Try.ntmps3
    go_wp2_with (go_at_call 9; refine Hgr.out.mono ?_; rintro e w1 ⟨rfl, rfl⟩)
    go_loopw [5] (fun i wr => ∃ k : Nat, k ≤ n ∧ i = .int .i64 k ∧ Below w.heap.size w wr) (fun i _ => n - (intOf i).toNat)
    case atStart => exact ⟨0, Nat.zero_le _, rfl, hb0⟩
    case round =>
      obtain ⟨k, hk, rfl, hbr⟩ := hrel
      by_cases hkk : k < n ∧ k < n'
      · obtain ⟨hkn, hkn'⟩ := hkk
        obtain ⟨b, o, a, x, hA, hbl, hpk, hc0, hc1⟩ := (ha.below hbr).get hkn
        obtain ⟨b', o', a', x', hA', hbl', hqk, hd0, hd1⟩ := (hb.below hbr).get hkn'
        have hcap := ha.cap
        have hcap' := hb.cap
        have hmax := ha.max
        have hmax' := hb.max
        subst hA hA'
        clear hpk hqk
        have hw1 : IntKind.i64.wrap ((k : Int) + 1) = (k : Int) + 1 := IntWalk.i64_in _ (by omega)
        have hw2 : 0 ≤ (k : Int) + 1 := by omega
        have hw3 : ((k : Int) + 1).toNat = k + 1 := by omega
        have hw4 : (k : Int) + 1 ≤ (c : Int) := by omega
        have hw5 : (k : Int) + 1 ≤ (c' : Int) := by omega
        have hw6 : (k : Int) < (n : Int) := by omega
        have hw7 : (k : Int) < (n' : Int) := by omega
        have hw8 : (k : Int) ≤ (k : Int) + 1 := by omega
        have hck : ¬ c = k := by omega
        have hq1 : 1 ≤ c - k := by omega
        have hq2 : c - k ≤ maxLen := by omega
        have hq3 : 1 ≤ c' - k := by omega
        have hq4 : c' - k ≤ maxLen := by omega
        have Hcl : Hid (clashL [(a, x)] [(a', x')] = clashW (a, x) (a', x')) := Lib.hid (by simp [clashL])
        have hck' : ¬ c' = k := by omega
        go_wp2
        go_region_held3 (fun w' => w'.cell? ⟨b, o + k * 2, none⟩ = some (.string a) ∧ w'.cell? ⟨b, o + k * 2 + 1, none⟩ = some (.bool x) ∧ w'.cell? ⟨b', o' + k * 2, none⟩ = some (.string a') ∧ w'.cell? ⟨b', o' + k * 2 + 1, none⟩ = some (.bool x') ∧ b < w'.heap.size ∧ b' < w'.heap.size) ((first | (simp [*]; done) | ((repeat' apply And.intro) <;> (first | (rw [hcc2 _ _ (by assumption)]; assumption) | (exact Nat.lt_of_lt_of_le (by assumption) hsz2) | (simp [*]; done)))))
          (first | (go_at_call 11; refine (clash1_any _ _ _ _ _).mono ?_; rintro e w' ⟨rfl, hb1⟩; have hbel : Below wr.heap.size wr w' := ⟨hb1.os, hb1.tape, hb1.output, hb1.size, hb1.block⟩; obtain ⟨hcc2, _⟩ := old_reads hbel; have hsz2 := hbel.size) | (go_at_call 12; refine (clash_ref _ _ 1 _ 1 _ [(a, x)] [(a', x')] _ (WAt.one_of (Nat.lt_of_lt_of_le hbl hsz2) ((hcc2 _ _ hbl).trans hc0) ((hcc2 _ _ hbl).trans hc1) hq1 hq2) (WAt.one_of (Nat.lt_of_lt_of_le hbl' hsz2) ((hcc2 _ _ hbl').trans hd0) ((hcc2 _ _ hbl').trans hd1) hq3 hq4)).mono ?_; rintro e w2 ⟨he, m2, rfl⟩; rw [Hcl.out] at he; subst he))
        go_wp2
        go_roundw
        case rel => exact ⟨k + 1, by omega, by go_num, below_drewN (hbr.trans (hbel.mono hbr.size)) _⟩
        case measure => simp [intOf]; omega
      · have hexit : k < n → ¬ k < n' := fun h1 h2 => hkk ⟨h1, h2⟩
        clear hkk
        have har := ha.below hbr
        have hbr' := hb.below hbr
        have hown0 : (wr.alloc (.cells #[] 31)).ownsRow wr.heap.size 31 2 (.slice (some ⟨wr.heap.size, 0, none⟩) 0 0) 0 (([] : List (List Value)).flatten) := World.ownsRow_lit wr #[] 0 (Nat.le_refl _) (Nat.zero_le _) rfl
        have har1 := har.below ((Below.refl wr.heap.size wr).alloc (Nat.le_refl _) (.cells #[] 31))
        have hbr1 := hbr'.below ((Below.refl wr.heap.size wr).alloc (Nat.le_refl _) (.cells #[] 31))
        by_cases hkn : k < n
        · have hkn' := hexit hkn
          clear hexit
          go_wp2_with (first | (at_builtin; refine wpList_app rfl rfl tyWant rfl hown0 rfl har1 wrow_len wrow_one ?_ ?_ ?_ ?_; (unfold maxLen; omega); omega; (simp); intro A3 c3 w3 hown3 hbut3 hf3; simp only [Nat.zero_add, List.nil_append] at hown3; have hz3 := hbut3.size; have hb3 := appB wr _ _ hbut3; have hbr3 := hbr'.below hb3; have hb3z := hb3.size) | (at_builtin; refine wpList_app rfl rfl tyWant rfl hown3 rfl hbr3 wrow_len wrow_one ?_ ?_ hb3z ?_; (unfold maxLen; omega); omega; intro A4 c4 w4 hown4 hbut4 hf4; rw [← List.map_append] at hown4; have hb4 := appB2 hb3 hown3 hbut4))
          have hb4w : Below w.heap.size w w4 := hbr.trans (hb4.mono hbr.size)
          have hus4 := ha.below hb4w
          have hvs4 := hb.below hb4w
          have hall4 : WAt w4 A4 (n + n') c4 (us ++ vs) := WAt.of_own hown4 (by rw [List.length_append, Hla.out, Hlb.out])
          obtain ⟨U, HU⟩ : ∃ U, Hid (unionW (us ++ vs) = U) := ⟨_, rfl⟩
          clear hown0 har1 hbr1 har hbr' hb4 hown4 hbut4 hf4
          have h1 := union_any _ 2 2 [us, vs] (by simp [Hla.out, Hlb.out]; omega) _ (lists_lit (T := 22) (g := w4.heap.size) [(A, n, c, us), (A', n', c', vs)] rfl (by simp) (by simp [hus4, hvs4]) #[.slice A n c, .slice A' n' c'] rfl)
          rw [show [us, vs].flatten = us ++ vs by simp, HU.out] at h1
          go_wp2_with fail
          refine h1.mono ?_
          clear h1
          rintro e w5 ⟨A5, c5, rfl, hown5, hb5⟩
          have hb5w : Below w4.heap.size w4 w5 := ((Below.refl _ _).alloc (Nat.le_refl _) _).trans (hb5.mono (by simp))
          have hU5 : WAt w5 A5 U.length c5 U := WAt.of_own hown5 rfl
          have h2 := union_ref A4 (n + n') c4 (us ++ vs) (by omega) w5 (hall4.below hb5w)
          rw [HU.out] at h2
          go_wp2_with fail
          refine h2.mono ?_
          clear h2
          rintro e w6 ⟨A6, c6, rfl, hown6, hb6⟩
          have h3 := wants_ref A5 A6 U.length c5 U.length c6 U U w6 (hU5.below hb6) (WAt.of_own hown6 rfl)
          rw [show decide (U = U) = true by simp] at h3
          go_wp2_with fail
          refine h3.mono ?_
          clear h3
          rintro e w7 ⟨rfl, m7, rfl⟩
          have hb7w : Below w4.heap.size w4 (w6.drewN m7) := below_drewN (hb5w.trans (hb6.mono hb5w.size)) _
          clear hown5 hown6 hb5 hb6 hb5w hU5
          have h4 := union_any _ 3 3 [vs, [], us] (by simp [Hla.out, Hlb.out]; omega) _ (lists_lit (T := 22) (w := w6.drewN m7) (g := w6.heap.size) [(A', n', c', vs), (none, 0, 0, []), (A, n, c, us)] (by simp) (by simp) (by
            intro y hy
            simp only [List.mem_cons, List.not_mem_nil, or_false] at hy
            rcases hy with rfl | rfl | rfl
            · exact hvs4.below hb7w
            · exact RowsAt.nil_ _ _
            · exact hus4.below hb7w) #[.slice A' n' c', .slice none 0 0, .slice A n c] rfl)
          rw [show [vs, [], us].flatten = vs ++ us by simp, unionW_perm (List.perm_append_comm (l₁ := vs) (l₂ := us)), HU.out] at h4
          go_wp2_with fail
          refine (draw_alloc h4).mono ?_
          clear h4
          rintro e w8 ⟨A8, c8, rfl, hown8, hb8⟩
          have hb8w : Below w4.heap.size w4 w8 := (hb7w.alloc hb7w.size _).trans (hb8.mono (by have := hb7w.size; simp at this ⊢; omega))
          have hU8 : WAt w8 A8 U.length c8 U := WAt.of_own hown8 rfl
          have h5 := union_ref A4 (n + n') c4 (us ++ vs) (by omega) w8 (hall4.below hb8w)
          rw [HU.out] at h5
          go_wp2_with fail
          refine h5.mono ?_
          clear h5
          rintro e w9 ⟨A9, c9, rfl, hown9, hb9⟩
          have h6 := wants_ref A8 A9 U.length c8 U.length c9 U U w9 (hU8.below hb9) (WAt.of_own hown9 rfl)
          rw [show decide (U = U) = true by simp] at h6
          go_wp2_with fail
          refine h6.mono ?_
          clear h6
          rintro e w10 ⟨rfl, m10, rfl⟩
          have hb10w : Below w4.heap.size w4 (w9.drewN m10) := below_drewN (hb8w.trans (hb9.mono hb8w.size)) _
          clear hown8 hown9 hb8 hb9 hb8w hU8
          go_wp2_with fail
          refine (union_any none 0 0 [] (by simp) _ ⟨[], RowsAt.nil_ _ _, rfl, by simp⟩).mono ?_
          rintro e w11 ⟨A11, c11, rfl, hown11, hb11⟩
          have hb11w := hb10w.trans (hb11.mono hb10w.size)
          have h0len : (unionW ([] : List (List Wt)).flatten).length = 0 := rfl
          rw [h0len]
          go_wp2_with (go_at_call 10; refine (awake_any _).mono ?_; rintro e w12 ⟨rfl, hb12⟩)
          go_ret
          exact ⟨rfl, hb4w.trans ((hb11w.trans (hb12.mono hb11w.size)).mono hb4w.size)⟩
        · clear hexit
          go_wp2_with (first | (at_builtin; refine wpList_app rfl rfl tyWant rfl hown0 rfl har1 wrow_len wrow_one ?_ ?_ ?_ ?_; (unfold maxLen; omega); omega; (simp); intro A3 c3 w3 hown3 hbut3 hf3; simp only [Nat.zero_add, List.nil_append] at hown3; have hz3 := hbut3.size; have hb3 := appB wr _ _ hbut3; have hbr3 := hbr'.below hb3; have hb3z := hb3.size) | (at_builtin; refine wpList_app rfl rfl tyWant rfl hown3 rfl hbr3 wrow_len wrow_one ?_ ?_ hb3z ?_; (unfold maxLen; omega); omega; intro A4 c4 w4 hown4 hbut4 hf4; rw [← List.map_append] at hown4; have hb4 := appB2 hb3 hown3 hbut4))
          have hb4w : Below w.heap.size w w4 := hbr.trans (hb4.mono hbr.size)
          have hus4 := ha.below hb4w
          have hvs4 := hb.below hb4w
          have hall4 : WAt w4 A4 (n + n') c4 (us ++ vs) := WAt.of_own hown4 (by rw [List.length_append, Hla.out, Hlb.out])
          obtain ⟨U, HU⟩ : ∃ U, Hid (unionW (us ++ vs) = U) := ⟨_, rfl⟩
          clear hown0 har1 hbr1 har hbr' hb4 hown4 hbut4 hf4
          have h1 := union_any _ 2 2 [us, vs] (by simp [Hla.out, Hlb.out]; omega) _ (lists_lit (T := 22) (g := w4.heap.size) [(A, n, c, us), (A', n', c', vs)] rfl (by simp) (by simp [hus4, hvs4]) #[.slice A n c, .slice A' n' c'] rfl)
          rw [show [us, vs].flatten = us ++ vs by simp, HU.out] at h1
          go_wp2_with fail
          refine h1.mono ?_
          clear h1
          rintro e w5 ⟨A5, c5, rfl, hown5, hb5⟩
          have hb5w : Below w4.heap.size w4 w5 := ((Below.refl _ _).alloc (Nat.le_refl _) _).trans (hb5.mono (by simp))
          have hU5 : WAt w5 A5 U.length c5 U := WAt.of_own hown5 rfl
          have h2 := union_ref A4 (n + n') c4 (us ++ vs) (by omega) w5 (hall4.below hb5w)
          rw [HU.out] at h2
          go_wp2_with fail
          refine h2.mono ?_
          clear h2
          rintro e w6 ⟨A6, c6, rfl, hown6, hb6⟩
          have h3 := wants_ref A5 A6 U.length c5 U.length c6 U U w6 (hU5.below hb6) (WAt.of_own hown6 rfl)
          rw [show decide (U = U) = true by simp] at h3
          go_wp2_with fail
          refine h3.mono ?_
          clear h3
          rintro e w7 ⟨rfl, m7, rfl⟩
          have hb7w : Below w4.heap.size w4 (w6.drewN m7) := below_drewN (hb5w.trans (hb6.mono hb5w.size)) _
          clear hown5 hown6 hb5 hb6 hb5w hU5
          have h4 := union_any _ 3 3 [vs, [], us] (by simp [Hla.out, Hlb.out]; omega) _ (lists_lit (T := 22) (w := w6.drewN m7) (g := w6.heap.size) [(A', n', c', vs), (none, 0, 0, []), (A, n, c, us)] (by simp) (by simp) (by
            intro y hy
            simp only [List.mem_cons, List.not_mem_nil, or_false] at hy
            rcases hy with rfl | rfl | rfl
            · exact hvs4.below hb7w
            · exact RowsAt.nil_ _ _
            · exact hus4.below hb7w) #[.slice A' n' c', .slice none 0 0, .slice A n c] rfl)
          rw [show [vs, [], us].flatten = vs ++ us by simp, unionW_perm (List.perm_append_comm (l₁ := vs) (l₂ := us)), HU.out] at h4
          go_wp2_with fail
          refine (draw_alloc h4).mono ?_
          clear h4
          rintro e w8 ⟨A8, c8, rfl, hown8, hb8⟩
          have hb8w : Below w4.heap.size w4 w8 := (hb7w.alloc hb7w.size _).trans (hb8.mono (by have := hb7w.size; simp at this ⊢; omega))
          have hU8 : WAt w8 A8 U.length c8 U := WAt.of_own hown8 rfl
          have h5 := union_ref A4 (n + n') c4 (us ++ vs) (by omega) w8 (hall4.below hb8w)
          rw [HU.out] at h5
          go_wp2_with fail
          refine h5.mono ?_
          clear h5
          rintro e w9 ⟨A9, c9, rfl, hown9, hb9⟩
          have h6 := wants_ref A8 A9 U.length c8 U.length c9 U U w9 (hU8.below hb9) (WAt.of_own hown9 rfl)
          rw [show decide (U = U) = true by simp] at h6
          go_wp2_with fail
          refine h6.mono ?_
          clear h6
          rintro e w10 ⟨rfl, m10, rfl⟩
          have hb10w : Below w4.heap.size w4 (w9.drewN m10) := below_drewN (hb8w.trans (hb9.mono hb8w.size)) _
          clear hown8 hown9 hb8 hb9 hb8w hU8
          go_wp2_with fail
          refine (union_any none 0 0 [] (by simp) _ ⟨[], RowsAt.nil_ _ _, rfl, by simp⟩).mono ?_
          rintro e w11 ⟨A11, c11, rfl, hown11, hb11⟩
          have hb11w := hb10w.trans (hb11.mono hb10w.size)
          have h0len : (unionW ([] : List (List Wt)).flatten).length = 0 := rfl
          rw [h0len]
          go_wp2_with (go_at_call 10; refine (awake_any _).mono ?_; rintro e w12 ⟨rfl, hb12⟩)
          go_ret
          exact ⟨rfl, hb4w.trans ((hb11w.trans (hb12.mono hb11w.size)).mono hb4w.size)⟩
end Go.Proofs.Ytinpihplkikldaa
