/- Parts of this proof, one behind the other: LexB. -/
import Derived.Test.YtlakeanldbdedaaGreatPr40
import Derived.Test.YtlakeanldbdedaaGreatPr8
namespace Go.Proofs.YtlakeanldbdedaaGreat
open Go.RowKit Go.Afx

theorem numL_snoc (t : List UInt8) (c : UInt8) : numL (t ++ [c]) = 10 * numL t + (c.toNat - 48) := by
  unfold numL
  rw [List.foldl_append]
  rfl
theorem take_one {l : List UInt8} {k : Nat} {y : UInt8} (h : l[k]? = some y) : l.take (k + 1) = l.take k ++ [y] := by
  rw [List.take_add_one, h]
  rfl
/-- what is told of a number's text -/
def NumSaid (t : List UInt8) (v e : Int) : Prop := match parseN t with
  | some n => v = n ∧ e = 0
  | none => 1 ≤ e ∧ e ≤ 100
theorem mul64_of (n : Nat) (hn : n < 18446744073709551616) (w : World) : Calls Tryz.prog 130 #[.int .u64 n, .int .u64 10] w fun e w' => e = .returned (.tuple #[.int .u64 ((n * 10 / 18446744073709551616 : Nat) : Int), .int .u64 ((n * 10 % 18446744073709551616 : Nat) : Int)]) ∧ w' = w :=
  Tryz.bits_Mul64 n 10 hn (by omega) w
theorem add64_of (n d : Nat) (w : World) : (callFunc 131 #[.int .u64 n, .int .u64 d, .int .u64 0]).run Tryz.prog w = .ok (.value (.tuple #[.int .u64 (((n + d) % 18446744073709551616 : Nat) : Int), .int .u64 (((n + d) / 18446744073709551616 : Nat) : Int)])) w :=
  Tryz.bits_Add64 n d 0 (by omega) w
theorem signed_pos (a : Nat) (ha : a < 18446744073709551616) (w : World) : Calls Tryz.prog 132 #[.bool false, .int .u64 a] w fun e w' => e = .returned (.tuple #[.int .i64 (if a ≤ 9223372036854775807 then a else 0), .int .i64 (if a ≤ 9223372036854775807 then 0 else 2)]) ∧ w' = w := by
  rcases Nat.lt_or_ge 9223372036854775807 a with h | h
  · rw [if_neg (by omega), if_neg (by omega)]
    go_enter Tryz.func132, Tryz.ntmps132
    go_wp2
    go_ret2
    exact ⟨rfl, rfl⟩
  · rw [if_pos h, if_pos h]
    go_enter Tryz.func132, Tryz.ntmps132
    go_wp2
    go_ret2
    exact ⟨rfl, rfl⟩
theorem numL_step {l : List UInt8} {k a hi lo : Nat} {y : UInt8} {o : Bool} (hy : l[k]? = some y) (h : a = numL (l.take k) % 18446744073709551616 ∧ o = decide (18446744073709551616 ≤ numL (l.take k)) ∧ ∀ y ∈ l.take k, dgB y = true) (hhi : a * 10 / 18446744073709551616 = hi) (hlo : a * 10 % 18446744073709551616 = lo) :
    (lo + (y.toNat - 48)) % 18446744073709551616 = numL (l.take (k + 1)) % 18446744073709551616 ∧ (o || decide (hi ≠ 0) || decide ((lo + (y.toNat - 48)) / 18446744073709551616 ≠ 0)) = decide (18446744073709551616 ≤ numL (l.take (k + 1))) := by
  rw [take_one hy, numL_snoc]
  obtain ⟨h1, h2, _⟩ := h
  generalize numL (l.take k) = N at *
  have hyl := y.toNat_lt
  generalize y.toNat - 48 = d at *
  subst h1
  refine ⟨by omega, ?_⟩
  rw [Bool.eq_iff_iff]
  simp only [h2, Bool.or_eq_true, decide_eq_true_eq]
  omega
set_option maxRecDepth 100000 in
set_option maxHeartbeats 2000000 in
theorem calcParse_any (s : ByteArray) (w : World) (h0 : 0 < s.size) (hs : s.size ≤ 1000000000000) (hd : dgB s[0] = true) :
    Calls Tryz.prog 101 #[.string s] w fun x w' => (∃ v e : Int, x = .returned (.tuple #[.int .i64 v, .int .i64 e]) ∧ NumSaid s.data.toList v e) ∧ Below w.heap.size w w' := by
  obtain ⟨c, r, hl, hc, hlen⟩ := list_of s h0
  have hdc : 48 ≤ c.toNat ∧ c.toNat ≤ 57 := by
    rw [hc] at hd
    simpa [dgB] using hd
  have hne : (((s[0]'h0).toNat : Int) == 45) = false := by rw [hc]; rw [beq_eq_false_iff_ne]; omega
  have he : s.toList.isEmpty = false := by
    cases hx : s.toList with
    | nil => exact absurd ((bytes_nil s).1 hx) (by omega)
    | cons a l => rfl
  have hcv := fun (W : World) => Lib.run_convert_string_bytes (P := Tryz.prog) W 9 110 5 s Tryz.underlying9 Tryz.underlying110 Tryz.underlying5
  have hcell := Lib.bytesWorld_cell w 5 s
  have Hcell := Lib.hid hcell
  have hbel := bytesBelow w 5 s
  rcases Classical.em (c.toNat = 48 ∧ 1 < s.size) with hz | hz
  · have hN : NumSaid s.data.toList 0 12 := by
      have e : c = 48 := UInt8.toNat_inj.1 hz.1
      unfold NumSaid parseN
      rw [hl, if_pos (.inl ⟨by rw [e]; rfl, by simp only [List.length_cons]; omega⟩)]
      decide
    have hq : (((s[0]'h0).toNat : Int) == 48) = true := by rw [hc]; rw [beq_iff_eq]; omega
    have hq2 : decide ((1 : Int) < (s.size : Int)) = true := by simp; omega
    have HN := Lib.hid hN
    clear hN hcell hbel hcv hz hdc hl hlen hc hd
    go_enter Tryz.func101, Tryz.ntmps101
    go_wp2
    go_ret2
    exact ⟨⟨_, _, rfl, HN.out⟩, Below.refl _ _⟩
  · have hN : ∀ a : Nat, (∀ y ∈ s.data.toList, dgB y = true) → a = numL s.data.toList → NumSaid s.data.toList (if a ≤ 9223372036854775807 then a else 0) (if a ≤ 9223372036854775807 then 0 else 2) := fun a h1 h2 => by
      unfold NumSaid parseN
      rw [if_neg, ← h2]
      · rcases Classical.em (a ≤ 9223372036854775807) with ha | ha
        · simp only [if_pos ha, and_true]
        · simp only [if_neg ha]; decide
      · rintro (h3 | h3)
        · rw [hl] at h3
          simp at h3
          have : c.toNat = 48 := by rw [h3.1]; rfl
          have : 1 < s.size := by rw [← hlen]; have := h3.2; cases r with | nil => simp at this | cons a b => simp
          omega
        · rw [List.all_eq_false] at h3
          obtain ⟨y, hy, h4⟩ := h3
          exact h4 (h1 y hy)
    have hX : ∀ y ∈ s.data.toList, dgB y = false → NumSaid s.data.toList 0 12 := fun y hy h => by
      unfold NumSaid parseN
      rw [if_pos (.inr (List.all_eq_false.2 ⟨y, hy, by rw [h]; decide⟩))]
      decide
    have hq : (((s[0]'h0).toNat : Int) == 48) = false ∨ (((s[0]'h0).toNat : Int) == 48) = true ∧ ¬ ((1 : Int) < (s.size : Int)) := by
      rw [hc, beq_eq_false_iff_ne, beq_iff_eq]
      omega
    have HN := Lib.hid hN
    have HX := Lib.hid hX
    have Hbel := Lib.hid hbel
    clear hN hX hcell hz hdc hl hlen hbel hc hd
    rcases hq with hq | ⟨hq, hq2⟩
    all_goals
      go_enter Tryz.func101, Tryz.ntmps101
      go_wp2
      generalize Lib.bytesWorld w 5 s = wb at *
      go_loop [6, 7, 42] (fun n ov i => ∃ (k a : Nat) (o : Bool), k ≤ s.size ∧ n = .int .u64 a ∧ ov = .bool o ∧ i = .int .i64 k ∧ Hid (a = numL (s.data.toList.take k) % 18446744073709551616 ∧ o = decide (18446744073709551616 ≤ numL (s.data.toList.take k)) ∧ ∀ y ∈ s.data.toList.take k, dgB y = true)) (fun _ _ i => s.size - (intOf i).toNat)
      case atStart => exact ⟨0, 0, false, Nat.zero_le _, rfl, rfl, rfl, Lib.hid ⟨rfl, rfl, by simp⟩⟩
      case round =>
        obtain ⟨k, a, o, hk, rfl, rfl, rfl, HS⟩ := hrel
        by_cases hlt : k < s.size
        · have hc1 := Hcell.out k hlt
          obtain ⟨y, hy⟩ : ∃ y, s.data.toList[k]? = some y := ⟨_, List.getElem?_eq_getElem (by simpa using hlt)⟩
          rw [List.getD_eq_getElem?_getD, hy, Option.getD_some] at hc1
          have Hy := Lib.hid hy
          have ha : a < 18446744073709551616 := by rw [HS.out.1]; exact Nat.mod_lt _ (by decide)
          have hm := mul64_of a ha wb
          have hA := fun d => add64_of (a * 10 % 18446744073709551616) d wb
          generalize hhi : a * 10 / 18446744073709551616 = hi at *
          generalize hlo : a * 10 % 18446744073709551616 = lo at *
          have Hm := Lib.hid hm
          have HA := Lib.hid hA
          have Hd := Lib.hid (And.intro hhi hlo)
          have hdd : dgB y = true ∨ (y.toNat < 48 ∨ 57 < y.toNat) := by
            rcases Classical.em (dgB y = true) with h | h
            · exact .inl h
            · right
              rw [Bool.not_eq_true] at h
              simp [dgB] at h
              omega
          clear hy hm hA hhi hlo
          rcases hdd with hdd | hdd | hdd
          · have hdg : 48 ≤ y.toNat ∧ y.toNat ≤ 57 := by simpa [dgB] using hdd
            obtain ⟨e1, e2⟩ := hdg
            have hA := HA.out (y.toNat - 48)
            have e3 : (((y.toNat - 48 : Nat) : Int)) = (y.toNat : Int) - 48 := by omega
            rw [e3] at hA
            have hnum := numL_step Hy.out HS.out Hd.out.1 Hd.out.2
            have hall : ∀ z ∈ s.data.toList.take (k + 1), dgB z = true := by
              rw [take_one Hy.out]
              intro z hz
              rcases List.mem_append.1 hz with hz | hz
              · exact HS.out.2.2 z hz
              · simp only [List.mem_singleton] at hz; subst hz; exact hdd
            generalize (lo + (y.toNat - 48)) % 18446744073709551616 = S at *
            generalize (lo + (y.toNat - 48)) / 18446744073709551616 = C at *
            have Hnum := Lib.hid (And.intro hnum hall)
            clear hnum hall
            go_wp2_with (fail)
            refine Hm.out.mono ?_
            rintro e w' ⟨rfl, rfl⟩
            cases o with
            | true =>
              go_wp2
              go_round
              case rel => exact ⟨k + 1, S, true, by omega, rfl, rfl, by go_num, Lib.hid ⟨Hnum.out.1.1, by rw [← Hnum.out.1.2]; rfl, Hnum.out.2⟩⟩
              case measure => simp [intOf]; omega
            | false =>
              rcases Nat.eq_zero_or_pos hi with h1 | h1
              · subst h1
                rcases Nat.eq_zero_or_pos C with h2 | h2
                · subst h2
                  go_wp2
                  go_round
                  case rel => exact ⟨k + 1, S, false, by omega, rfl, rfl, by go_num, Lib.hid ⟨Hnum.out.1.1, by rw [← Hnum.out.1.2]; rfl, Hnum.out.2⟩⟩
                  case measure => simp [intOf]; omega
                · have h3 : ((C : Int) == 0) = false := by rw [beq_eq_false_iff_ne]; omega
                  have h4 : ((C : Int) != 0) = true := by simp; omega
                  go_wp2
                  go_round
                  case rel => exact ⟨k + 1, S, true, by omega, rfl, rfl, by go_num, Lib.hid ⟨Hnum.out.1.1, by rw [← Hnum.out.1.2]; simp; omega, Hnum.out.2⟩⟩
                  case measure => simp [intOf]; omega
              · have h3 : ((hi : Int) == 0) = false := by rw [beq_eq_false_iff_ne]; omega
                go_wp2
                go_round
                case rel => exact ⟨k + 1, S, true, by omega, rfl, rfl, by go_num, Lib.hid ⟨Hnum.out.1.1, by rw [← Hnum.out.1.2]; simp; omega, Hnum.out.2⟩⟩
                case measure => simp [intOf]; omega
          · have hx := HX.out y (List.mem_of_getElem? Hy.out) (by simp [dgB]; omega)
            have Hx := Lib.hid hx
            clear hx
            go_wp2
            go_ret2
            exact ⟨⟨_, _, rfl, Hx.out⟩, Hbel.out⟩
          · have hx := HX.out y (List.mem_of_getElem? Hy.out) (by simp [dgB]; omega)
            have Hx := Lib.hid hx
            clear hx
            go_wp2
            go_ret2
            exact ⟨⟨_, _, rfl, Hx.out⟩, Hbel.out⟩
        · have e : k = s.size := by omega
          have hlL : s.data.toList.length ≤ k := by rw [szl]; omega
          have hS := HS.out
          rw [List.take_of_length_le hlL] at hS
          cases o with
          | true =>
            have h1 : NumSaid s.data.toList 0 2 := by
              have := HN.out (numL s.data.toList) hS.2.2 rfl
              have h2 : 18446744073709551616 ≤ numL s.data.toList := by simpa using hS.2.1
              rw [if_neg (by omega), if_neg (by omega)] at this
              exact this
            have H1 := Lib.hid h1
            clear hS h1
            go_wp2
            go_ret2
            exact ⟨⟨_, _, rfl, H1.out⟩, Hbel.out⟩
          | false =>
            have h1 : NumSaid s.data.toList (if a ≤ 9223372036854775807 then a else 0) (if a ≤ 9223372036854775807 then 0 else 2) := by
              have h2 : ¬ 18446744073709551616 ≤ numL s.data.toList := by simpa using hS.2.1
              have h3 : a = numL s.data.toList := by have := hS.1; omega
              exact HN.out a hS.2.2 h3
            have ha : a < 18446744073709551616 := by have := hS.1; omega
            have hsg := signed_pos a ha wb
            generalize (if a ≤ 9223372036854775807 then (a : Int) else 0) = v1 at *
            generalize (if a ≤ 9223372036854775807 then (0 : Int) else 2) = v2 at *
            have H1 := Lib.hid h1
            have Hsg := Lib.hid hsg
            clear hS h1 hsg ha
            go_wp2_with (fail)
            refine Hsg.out.mono ?_
            rintro e w' ⟨rfl, rfl⟩
            go_wp2
            go_ret2
            exact ⟨⟨_, _, rfl, H1.out⟩, Hbel.out⟩
end Go.Proofs.YtlakeanldbdedaaGreat
