/- Parts of this proof, one behind the other: LexC. -/
import Derived.Test.YtlakeanldbdedaaGreatPr41
import Derived.Deep.Cut
namespace Go.Proofs.YtlakeanldbdedaaGreat
open Go.RowKit Go.Afx

theorem ret_word3 {fn : Func} {p u v : Tmp} {tmps : Array Value} {w : World} {g : Nat} {t : TypeId} {cs : Array Value} {x y : Value} (h : fn.results = #[.cell p 36, .tmp u, .tmp v]) (hp : tmps.getD p undef = .pointer (some ⟨g, 0, none⟩)) (hk : IsBlk w g t cs) (hz : cs.size = 4) (hv : tmps.getD u undef = x) (hy : tmps.getD v undef = y) : (results fn tmps).run Tryz.prog w = .ok (.tuple #[.agg cs, x, y]) w := by
  have h2 := run_loadVar_row (P := Tryz.prog) w g t 36 cs (0, 0) _ hk Tryz.underlying36 rfl (by rw [hz]; exact sizeWord)
  simp only [results, h]
  have e1 : tmps[p]?.getD undef = .pointer (some ⟨g, 0, none⟩) := by simpa using hp
  have e2 : tmps[u]?.getD undef = x := by simpa using hv
  have e3 : tmps[v]?.getD undef = y := by simpa using hy
  simp [Result.andThen, e1, e2, e3, asAddr, h2]
/-- what is told of the next word -/
def NextSaid (o : Option Nx) (e : Ending) : Prop := match o with
  | some x => e = .returned (.tuple #[.agg #[.int .i64 x.kind, .string (str x.text), .int .i64 x.n, .int .i64 0], .int .i64 x.len, .bool true])
  | none => ∃ (k : Int) (t : ByteArray) (m n : Int), e = .returned (.tuple #[.agg #[.int .i64 k, .string t, .int .i64 m, .int .i64 0], .int .i64 n, .bool false])
abbrev u8v (c : UInt8) : List Value := [.int .u8 (c.toNat : Int)]
theorem u8v_len (l : List UInt8) : ∀ r ∈ l.map u8v, r.length = 1 := by
  intro r hr
  obtain ⟨x, _, rfl⟩ := List.mem_map.1 hr
  rfl
theorem u8v_flat (l : List UInt8) : (l.map u8v).flatten = l.map fun c => Value.int .u8 (c.toNat : Int) := by
  induction l with
  | nil => rfl
  | cons c l ih => rw [List.map_cons, List.flatten_cons, ih]; rfl
theorem tyU8 : ElemTy Tryz.prog 110 5 1 1 (.int .u8 0) := ⟨Tryz.underlying110, by kernel_rfl, rfl, by decide⟩
theorem conv_own {w : World} {base : Nat} {A : Option Addr} {c : Nat} {l : List UInt8} (h : w.ownsRow base 5 1 (.slice A l.length c) l.length (l.map u8v).flatten) :
    (convert 110 9 (.slice A l.length c)).run Tryz.prog w = .ok (.string (str l)) w := by
  rcases Nat.eq_zero_or_pos l.length with h0 | h0
  · have hl : l = [] := List.eq_nil_of_length_eq_zero h0
    subst hl
    cases A with
    | none =>
      rw [run_convert_bytes_string w 110 9 5 none _ c Tryz.underlying110 Tryz.underlying5 Tryz.underlying9]
      simp [Conv.bytesToString]
      rfl
    | some a =>
      exact run_convert_bytes_back (P := Tryz.prog) w 110 9 5 a c [] Tryz.underlying110 Tryz.underlying5 Tryz.underlying9 (fun j hj => by simp at hj)
  · obtain ⟨g, cap, hv, hb, hg⟩ := h.form h0
    simp only [Value.slice.injEq] at hv
    obtain ⟨rfl, _, _⟩ := hv
    exact run_convert_bytes_back (P := Tryz.prog) w 110 9 5 ⟨g, 0, none⟩ c l Tryz.underlying110 Tryz.underlying5 Tryz.underlying9 (fun j hj => h.cells (g := g) rfl j _ (by rw [u8v_flat, List.getElem?_map, List.getElem?_eq_getElem hj]; rfl))
theorem own_turned {w w' : World} {base : Nat} {T : TypeId} {sz : Nat} {A : Option Addr} {n c : Nat} {xs : List Value} (h : w.ownsRow base T sz (.slice A n c) n xs) (hb : But (fun k => A.map (·.block) = some k) w w') (hB : base ≤ w.heap.size) : Below base w w' :=
  hb.below' hB (fun i hi => by
    cases A with
    | none => cases hi
    | some a =>
      have e : a.block = i := by simpa using hi
      subst e
      exact (h.lt a.block rfl).1)
/-- a byte more -/
theorem u8_push (l : List UInt8) (c : UInt8) : (l.map u8v ++ [u8v c]) = (l ++ [c]).map u8v := by simp
theorem quo_go {c d : UInt8} {r acc : List UInt8} {i : Nat} : quo (c :: d :: r) acc i = if c.toNat = 10 then none else if c.toNat = 39 then (if d.toNat = 39 then quo r (acc ++ [39]) (i + 2) else some (acc, i + 1)) else quo (d :: r) (acc ++ [c]) (i + 1) := by rw [quo]
theorem quo_one {c : UInt8} {acc : List UInt8} {i : Nat} : quo [c] acc i = if c.toNat = 10 then none else if c.toNat = 39 then some (acc, i + 1) else none := by rw [quo]
/-- how it goes on at a byte -/
theorem quo_at {c : UInt8} {r acc : List UInt8} {i : Nat} : (c.toNat = 10 → quo (c :: r) acc i = none) ∧ (c.toNat ≠ 10 → c.toNat ≠ 39 → quo (c :: r) acc i = quo r (acc ++ [c]) (i + 1)) ∧
    (c.toNat = 39 → (r.head? = some 39 → quo (c :: r) acc i = quo (r.drop 1) (acc ++ [39]) (i + 2)) ∧ (r.head? ≠ some 39 → quo (c :: r) acc i = some (acc, i + 1))) := by
  cases r with
  | nil =>
    rw [quo_one]
    refine ⟨fun h => by rw [if_pos h], fun h1 h2 => by rw [if_neg h1, if_neg h2]; rfl, fun h => ⟨fun h2 => by simp at h2, fun _ => by rw [if_neg (by omega), if_pos h]⟩⟩
  | cons d r =>
    rw [quo_go]
    refine ⟨fun h => by rw [if_pos h], fun h1 h2 => by rw [if_neg h1, if_neg h2], fun h => ⟨fun h2 => ?_, fun h2 => ?_⟩⟩
    · have e : d = 39 := by simpa using h2
      rw [if_neg (by omega), if_pos h, if_pos (by rw [e]; rfl)]
      rfl
    · have e : ¬ d.toNat = 39 := fun e => h2 (by rw [← UInt8.toNat_inj.1 (show d.toNat = (39 : UInt8).toNat from e)]; rfl)
      rw [if_neg (by omega), if_pos h, if_neg e]
/-- a word is laid into the result's block -/
theorem lex_laid {w w1 wr : World} (hk : IsBlk wr w.heap.size 36 #[.int .i64 0, .string ⟨#[]⟩, .int .i64 0, .int .i64 0]) (hb1 : Below w.heap.size w w1) (hz : w1.heap.size = w.heap.size + 1) (hb : Below w1.heap.size w1 wr) (k : Int) (t : ByteArray) (n a : Int) :
    IsBlk ((((wr.setCell ⟨w.heap.size, 0, none⟩ (.int .i64 k)).setCell ⟨w.heap.size, 1, none⟩ (.string t)).setCell ⟨w.heap.size, 2, none⟩ (.int .i64 n)).setCell ⟨w.heap.size, 3, none⟩ (.int .i64 a)) w.heap.size 36 #[.int .i64 k, .string t, .int .i64 n, .int .i64 a] ∧
    Below w.heap.size w ((((wr.setCell ⟨w.heap.size, 0, none⟩ (.int .i64 k)).setCell ⟨w.heap.size, 1, none⟩ (.string t)).setCell ⟨w.heap.size, 2, none⟩ (.int .i64 n)).setCell ⟨w.heap.size, 3, none⟩ (.int .i64 a)) :=
  ⟨(((hk.stored 0 (.int .i64 k)).stored 1 (.string t)).stored 2 (.int .i64 n)).stored 3 (.int .i64 a),
    ((((hb1.trans (hb.mono (by omega))).setCell (p := ⟨_, 0, none⟩) (Nat.le_refl _) _).setCell (p := ⟨_, 1, none⟩) (Nat.le_refl _) _).setCell (p := ⟨_, 2, none⟩) (Nat.le_refl _) _).setCell (p := ⟨_, 3, none⟩) (Nat.le_refl _) _⟩
def quoR : Option (List UInt8 × Nat) → Option Nx
  | none => none
  | some (b, n) => if b.length ≤ 200 then some ⟨2, b, 0, n⟩ else none
theorem quotedX_eq (s : List UInt8) : quotedX s = quoR (quo (s.drop 1) [] 1) := by
  unfold quotedX
  cases quo (s.drop 1) [] 1 <;> rfl
set_option maxRecDepth 100000 in
set_option maxHeartbeats 4000000 in
theorem quoted_any (s : ByteArray) (w : World) (h0 : 0 < s.size) (hs : s.size ≤ 1000000000) :
    Calls Tryz.prog 66 #[.string s] w fun x w' => NextSaid (quotedX s.data.toList) x ∧ Below w.heap.size w w' := by
  obtain ⟨w1, Hw1⟩ : ∃ w1, Hid (w1 = w.alloc (.cells #[.int .i64 0, .string ⟨#[]⟩, .int .i64 0, .int .i64 0] 36)) := ⟨_, rfl⟩
  have hb1 : Below w.heap.size w w1 := by rw [Hw1.out]; exact (Below.refl _ _).alloc (Nat.le_refl _) _
  have hk1 : IsBlk w1 w.heap.size 36 #[.int .i64 0, .string ⟨#[]⟩, .int .i64 0, .int .i64 0] := by rw [Hw1.out]; exact IsBlk.laid _ _ _
  have hz1 : w1.heap.size = w.heap.size + 1 := by rw [Hw1.out]; simp
  obtain ⟨m, Hm⟩ : ∃ m, Hid (m = quo (s.data.toList.drop 1) [] 1) := ⟨_, rfl⟩
  have hQ : quotedX s.data.toList = quoR m := by rw [Hm.out, quotedX_eq]
  generalize quotedX s.data.toList = Q at *
  have HQ := Lib.hid hQ
  have Hb1 := Lib.hid hb1
  have Hk1 := Lib.hid hk1
  have Hz1 := Lib.hid hz1
  clear hQ hb1 hk1 hz1
  go_enter Tryz.func66, Tryz.ntmps66
  go_upto_region 1 with (fail)
  rw [← Hw1.out]
  go_wp2
  go_loopw [5, 6] (fun b i wr => ∃ (k : Nat) (l : List UInt8) (A : Option Addr) (c : Nat), 1 ≤ k ∧ k ≤ s.size ∧ i = .int .i64 k ∧ b = .slice A l.length c ∧ wr.ownsRow w1.heap.size 5 1 (.slice A l.length c) l.length (l.map u8v).flatten ∧ l.length ≤ k ∧ Hid (m = quo (s.data.toList.drop k) l k) ∧ Below w1.heap.size w1 wr) (fun _ i _ => s.size - (intOf i).toNat)
  case atStart => exact ⟨1, [], none, 0, Nat.le_refl _, h0, rfl, rfl, World.ownsRow_nil _ _ _ _, by simp, Hm, Below.refl _ _⟩
  case round =>
    obtain ⟨k, l, A, c, hk1, hk, rfl, rfl, hown, hll, HF, hb⟩ := hrel
    have hkr := Hk1.out.as_was (hb.block _ Hk1.out.lt)
    obtain ⟨c0, c1, c2, c3, clt⟩ := cells4 hkr
    have hfz := hkr.frozen
    have hcvo := conv_own hown
    have Hkr := Lib.hid hkr
    have Hown := Lib.hid hown
    have Hb := Lib.hid hb
    have Hfin := Lib.hid (fun (k0 : Int) (t0 : ByteArray) (n0 a0 : Int) => lex_laid Hkr.out Hb1.out Hz1.out Hb.out k0 t0 n0 a0)
    clear hkr hown hb
    rcases Nat.lt_or_ge k s.size with hlt | hge
    · have hd := drop_at s k hlt
      obtain ⟨q1, q2, q3⟩ := quo_at (c := s[k]) (r := s.data.toList.drop (k + 1)) (acc := l) (i := k)
      rw [← hd] at q1 q2 q3
      rw [← HF.out] at q1 q2 q3
      have hnx : ∀ h : k + 1 < s.size, (s.data.toList.drop (k + 1)).head? = some s[k + 1] := fun h => by rw [drop_at s (k + 1) h]; rfl
      have hnx2 : s.size ≤ k + 1 → (s.data.toList.drop (k + 1)).head? = none := fun h => by rw [List.drop_eq_nil_of_le (by rw [szl]; omega)]; rfl
      rw [List.drop_drop] at q3
      have hex : ∀ c : UInt8, RowsAt (wr.alloc (.cells #[.int .u8 (c.toNat : Int)] 5)) 1 (some ⟨wr.heap.size, 0, none⟩) 1 1 [u8v c] := fun c => RowsAt.lit' _ _ 1 rfl rfl (by simp) rfl (by unfold maxLen; omega)
      have hal : ∀ c : UInt8, Below wr.heap.size wr (wr.alloc (.cells #[.int .u8 (c.toNat : Int)] 5)) := fun c => (Below.refl _ _).alloc (Nat.le_refl _) _
      have Hex := Lib.hid hex
      have Hal := Lib.hid hal
      have hmx : l.length + 1 ≤ maxLen := by unfold maxLen; omega
      have hby : (l.length + 1) * 1 ≤ 140737488355328 := by omega
      have Hmx := Lib.hid (And.intro hmx hby)
      have Hq1 := Lib.hid q1
      have Hq2 := Lib.hid q2
      have Hq3 := Lib.hid q3
      have Hll := Lib.hid hll
      have Hlt := Lib.hid hlt
      clear q1 q2 q3 hd hmx hby hex hal hll
      rcases Classical.em (s[k].toNat = 10) with e10 | e10
      · have b1 : ((s[k].toNat : Int) == 10) = true := by rw [beq_iff_eq]; omega
        have hm := Hq1.out e10
        have hq := HQ.out
        rw [hm] at hq
        have HQ' := Lib.hid hq
        clear e10 hm hq hnx hnx2 hcvo
        go_wp2
        refine bodyPost_ret (ret_word3 Tryz.results66 rfl (Hfin.out 0 ⟨#[]⟩ 0 0).1 rfl rfl rfl) rfl ⟨?_, (Hfin.out 0 ⟨#[]⟩ 0 0).2⟩
        rw [HQ'.out]
        exact ⟨_, _, _, _, rfl⟩
      · have b1 : ((s[k].toNat : Int) == 10) = false := by rw [beq_eq_false_iff_ne]; omega
        rcases Classical.em (s[k].toNat = 39) with e39 | e39
        · have b2 : ((s[k].toNat : Int) != 39) = false := by simp; omega
          obtain ⟨q4, q5⟩ := Hq3.out e39
          rcases Classical.em (∃ h : k + 1 < s.size, s[k + 1].toNat = 39) with e3 | e3
          · obtain ⟨h3, e3⟩ := e3
            have b3 : ((s[k + 1].toNat : Int) == 39) = true := by rw [beq_iff_eq]; omega
            have hm := q4 (by rw [hnx h3, ← UInt8.toNat_inj.1 (show s[k + 1].toNat = (39 : UInt8).toNat from e3)])
            have HF2 := Lib.hid hm
            clear e10 e39 e3 q4 q5 hm hnx hnx2 hcvo
            have hown2 := own_below Hown.out (Hal.out 39)
            have Hown2 := Lib.hid hown2
            clear hown2
            go_wp2_with (at_builtin; refine wpList_app (base := w1.heap.size) (xs := l.map u8v) (news := [u8v 39]) rfl rfl tyU8 rfl Hown2.out rfl (Hex.out 39) (by simp) (by simp [Value.oneCell']) Hmx.out.1 Hmx.out.2 (by (have := Hb.out.size; simp; omega)) ?_; intro A6 c6 w6 hown6 hbut6 hf6)
            rw [u8_push] at hown6
            have hb6 := (Hb.out.trans ((Hal.out 39).mono Hb.out.size)).trans (own_turned Hown2.out hbut6 (by have := Hb.out.size; simp; omega))
            go_roundw
            case rel => exact ⟨k + 2, l ++ [39], A6, c6, by omega, by omega, by go_num, by simp, by simpa using hown6, by have := Hll.out; simp; omega, HF2, hb6⟩
            case measure => simp [intOf]; omega
          · have hm := q5 (fun e => e3 (by
              rcases Nat.lt_or_ge (k + 1) s.size with h | h
              · rw [hnx h] at e
                exact ⟨h, by rw [Option.some.inj e]; rfl⟩
              · rw [hnx2 h] at e; cases e))
            have hq := HQ.out
            rw [hm] at hq
            simp only [quoR] at hq
            have hnx3 : ¬ (k + 1 < s.size) ∨ ∃ h : k + 1 < s.size, ((s[k + 1].toNat : Int) == 39) = false := by
              rcases Nat.lt_or_ge (k + 1) s.size with h | h
              · exact .inr ⟨h, by rw [beq_eq_false_iff_ne]; exact fun e => e3 ⟨h, by omega⟩⟩
              · exact .inl (by omega)
            have HQ' := Lib.hid hq
            have hfin : ∀ b : Bool, b = decide (l.length ≤ 200) → NextSaid Q (.returned (.tuple #[.agg #[.int .i64 2, .string (str l), .int .i64 0, .int .i64 0], .int .i64 ((k + 1 : Nat) : Int), .bool b])) := fun b hb => by
              rw [HQ'.out]
              rcases Classical.em (l.length ≤ 200) with h | h
              · rw [if_pos h, hb, decide_eq_true h]; rfl
              · rw [if_neg h, hb, decide_eq_false h]; exact ⟨_, _, _, _, rfl⟩
            have Hfn := Lib.hid hfin
            clear e10 e39 e3 q4 q5 hm hnx hnx2 hq hfin
            rcases hnx3 with h3 | ⟨h3, b3⟩
            · rcases Classical.em ((l.length : Int) ≤ 200) with h200 | h200
              · go_wp2
                refine bodyPost_ret (ret_word3 Tryz.results66 rfl (Hfin.out 2 (str l) 0 0).1 rfl rfl rfl) rfl ⟨Hfn.out _ (by simp; omega), (Hfin.out 2 (str l) 0 0).2⟩
              · go_wp2
                refine bodyPost_ret (ret_word3 Tryz.results66 rfl (Hfin.out 2 (str l) 0 0).1 rfl rfl rfl) rfl ⟨Hfn.out _ (by simp; omega), (Hfin.out 2 (str l) 0 0).2⟩
            · rcases Classical.em ((l.length : Int) ≤ 200) with h200 | h200
              · go_wp2
                refine bodyPost_ret (ret_word3 Tryz.results66 rfl (Hfin.out 2 (str l) 0 0).1 rfl rfl rfl) rfl ⟨Hfn.out _ (by simp; omega), (Hfin.out 2 (str l) 0 0).2⟩
              · go_wp2
                refine bodyPost_ret (ret_word3 Tryz.results66 rfl (Hfin.out 2 (str l) 0 0).1 rfl rfl rfl) rfl ⟨Hfn.out _ (by simp; omega), (Hfin.out 2 (str l) 0 0).2⟩
        · have b2 : ((s[k].toNat : Int) != 39) = true := by simp; omega
          have hm := Hq2.out e10 e39
          have HF2 := Lib.hid hm
          clear e10 e39 hm hnx hnx2 hcvo
          have hown2 := own_below Hown.out (Hal.out s[k])
          have Hown2 := Lib.hid hown2
          clear hown2
          go_wp2_with (at_builtin; refine wpList_app (base := w1.heap.size) (xs := l.map u8v) (news := [u8v s[k]]) rfl rfl tyU8 rfl Hown2.out rfl (Hex.out _) (by simp) (by simp [Value.oneCell']) Hmx.out.1 Hmx.out.2 (by (have := Hb.out.size; simp; omega)) ?_; intro A6 c6 w6 hown6 hbut6 hf6)
          rw [u8_push] at hown6
          have hb6 := (Hb.out.trans ((Hal.out s[k]).mono Hb.out.size)).trans (own_turned Hown2.out hbut6 (by have := Hb.out.size; simp; omega))
          go_roundw
          case rel => exact ⟨k + 1, l ++ [s[k]], A6, c6, by omega, by omega, by go_num, by simp, by simpa using hown6, by have := Hll.out; simp; omega, HF2, hb6⟩
          case measure => simp [intOf]; omega
    · have hm : m = none := by
        rw [HF.out, List.drop_eq_nil_of_le (by rw [szl]; omega)]
        rfl
      have hq := HQ.out
      rw [hm] at hq
      have HQ' := Lib.hid hq
      clear hq hm hcvo
      go_wp2
      refine bodyPost_ret (ret_word3 Tryz.results66 rfl (Hfin.out 0 ⟨#[]⟩ 0 0).1 rfl rfl rfl) rfl ⟨?_, (Hfin.out 0 ⟨#[]⟩ 0 0).2⟩
      rw [HQ'.out]
      exact ⟨_, _, _, _, rfl⟩
end Go.Proofs.YtlakeanldbdedaaGreat
