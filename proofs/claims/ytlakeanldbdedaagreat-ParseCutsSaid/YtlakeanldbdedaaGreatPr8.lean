/- Parts of this proof, one behind the other: SynD. -/
import Derived.Test.YtlakeanldbdedaaGreatPr7
import Derived.Lib.ConvBytes
namespace Go.Proofs.YtlakeanldbdedaaGreat
open Go.RowKit Go.Afx

/-- the first place at which something holds, or -1 -/
def posB {α : Type} (p : α → Bool) : List α → Int
  | [] => -1
  | x :: r => if p x then 0 else if posB p r = -1 then -1 else posB p r + 1
theorem posB_range {α : Type} (p : α → Bool) (l : List α) : posB p l = -1 ∨ (0 ≤ posB p l ∧ posB p l < l.length) := by
  induction l with
  | nil => exact .inl rfl
  | cons x r ih =>
    unfold posB
    split
    · right; simp
    · split
      · exact .inl rfl
      · right; simp only [List.length_cons]; omega
theorem posB_any {α : Type} (p : α → Bool) (l : List α) : decide (0 ≤ posB p l) = l.any p := by
  induction l with
  | nil => rfl
  | cons x r ih =>
    have hr := posB_range p r
    unfold posB
    rw [List.any_cons, ← ih]
    cases hp : p x with
    | true => simp
    | false =>
      simp only [Bool.false_eq_true, if_false, Bool.false_or]
      split <;> simp <;> omega
theorem posB_yes {α : Type} {p : α → Bool} {l : List α} {k : Nat} {x : α} (hk : l[k]? = some x) (he : p x = true) (hp : ∀ y ∈ l.take k, p y = false) : posB p l = k := by
  induction l generalizing k with
  | nil => simp at hk
  | cons y r ih =>
    cases k with
    | zero => simp at hk; subst hk; simp [posB, he]
    | succ k =>
      have h1 := ih (k := k) (by simpa using hk) (fun z hz => hp z (by simp [hz]))
      rw [posB, hp y (by simp), h1]
      simp
theorem posB_no {α : Type} {p : α → Bool} {l : List α} (hp : ∀ y ∈ l, p y = false) : posB p l = -1 := by
  induction l with
  | nil => rfl
  | cons y r ih => rw [posB, hp y (by simp), ih fun z hz => hp z (by simp [hz])]; simp

theorem mem_take_succ {α : Type} {l : List α} {k : Nat} {x : α} (h : l[k]? = some x) {P : α → Prop} (h1 : ∀ y ∈ l.take k, P y) (h2 : P x) : ∀ y ∈ l.take (k + 1), P y := by
  obtain ⟨hk, rfl⟩ := List.getElem?_eq_some_iff.1 h
  intro y hy
  rw [List.take_succ_eq_append_getElem hk, List.mem_append] at hy
  rcases hy with hy | hy
  · exact h1 y hy
  · rw [List.mem_singleton.1 hy]; exact h2

/-- strings of a slice -/
theorem strAt {F : Nat → Prop} {w : World} {A : Option Addr} {n c : Nat} {xs : List ByteArray} (h : LsAt F w 1 SRow A n c xs) {k : Nat} (hk : k < n) : ∃ b o x, A = some ⟨b, o, none⟩ ∧ b < w.heap.size ∧ xs[k]? = some x ∧ okS x ∧ w.cell? ⟨b, o + k, none⟩ = some (.string x) := by
  obtain ⟨b, o, r, x, hA, hb, _, hx, hl, ⟨rfl, hs⟩, hc⟩ := h.get hk
  exact ⟨b, o, x, hA, hb, hx, hs, by simpa using hc 0 _ rfl⟩

set_option maxHeartbeats 400000 in
theorem indexS_any (F : Nat → Prop) (A : Option Addr) (n c : Nat) (xs : List ByteArray) (s : ByteArray) (w : World) (h : LsAt F w 1 SRow A n c xs) :
    Calls Tryz.prog 94 #[.slice A n c, .string s] w fun x w' => x = .returned (.int .i64 (posB (fun y => s.toList == y.toList) xs)) ∧ w = w' := by
  have hn := h.n_le
  have Hl := Lib.hid h.len
  go_enter Tryz.func94, Tryz.ntmps94
  go_wp2
  go_loop [8] (fun i => ∃ k : Nat, k ≤ n ∧ i = .int .i64 k ∧ ∀ y ∈ xs.take k, (s.toList == y.toList) = false) (fun i => n - (intOf i).toNat)
  case atStart => exact ⟨0, Nat.zero_le _, rfl, by simp⟩
  case round =>
    obtain ⟨k, hk, rfl, hno⟩ := hrel
    have Hno := Lib.hid hno; clear hno
    by_cases hlt : k < n
    · obtain ⟨b, o, x, rfl, hbl, hx, hs, hc0⟩ := strAt h hlt
      have Hx := Lib.hid hx; clear hx
      by_cases he : (s.toList == x.toList) = true
      · have Hf := Lib.hid (posB_yes (p := fun y => s.toList == y.toList) Hx.out he Hno.out)
        go_wp2
        go_ret
        exact ⟨by rw [Hf.out]; rfl, rfl⟩
      · have he : (s.toList == x.toList) = false := by simpa using he
        have Hne := Lib.hid (mem_take_succ Hx.out Hno.out he)
        go_wp2
        go_round
        case rel => exact ⟨k + 1, by omega, by go_num, Hne.out⟩
        case measure => simp [intOf]; omega
    · go_wp2
      go_ret
      have h1 := Hno.out
      rw [List.take_of_length_le (by rw [Hl.out]; omega)] at h1
      exact ⟨by rw [posB_no h1]; rfl, rfl⟩

theorem containsS_any (F : Nat → Prop) (A : Option Addr) (n c : Nat) (xs : List ByteArray) (s : ByteArray) (w : World) (h : LsAt F w 1 SRow A n c xs) :
    Calls Tryz.prog 57 #[.slice A n c, .string s] w fun x w' => x = .returned (.bool (xs.any fun y => s.toList == y.toList)) ∧ w = w' := by
  have hi := indexS_any F A n c xs s w h
  have hp := posB_any (fun y => s.toList == y.toList) xs
  generalize xs.any (fun y => s.toList == y.toList) = r at *
  generalize posB (fun y => s.toList == y.toList) xs = i at *
  have Hp := Lib.hid hp
  have Hi := Lib.hid hi
  clear hp hi
  go_enter Tryz.func57, Tryz.ntmps57
  go_wp2_with (go_at_call 94; refine Hi.out.mono ?_; rintro x w' ⟨rfl, rfl⟩)
  go_ret
  exact ⟨ret_bool Hp.out, rfl⟩

theorem words_any (w : World) : Calls Tryz.prog 117 #[] w fun x w' => x = .returned (.slice (some ⟨w.heap.size, 0, none⟩) 43 43) ∧ LsAt (fun b => b = w.heap.size) w' 1 SRow (some ⟨w.heap.size, 0, none⟩) 43 43 wordsL ∧ Below w.heap.size w w' := by
  go_enter Tryz.func117, Tryz.ntmps117
  go_wp2
  go_ret
  refine ⟨rfl, ⟨wordsL.map fun s => [.string s], RowsAt.lit _ _ 43 rfl (by simp) rfl (by unfold maxLen; omega), fun a ha _ => ?_, rfl, fun k r x hr hx => ?_⟩, (Below.refl _ _).alloc (Nat.le_refl _) _⟩
  · injection ha with ha; subst ha; rfl
  · rw [List.getElem?_map, hx] at hr
    simp at hr
    subst hr
    refine ⟨rfl, rfl, ?_⟩
    have : ∀ y ∈ wordsL, okS y := by unfold okS; decide +kernel
    exact this x (List.mem_of_getElem? hx)

theorem reserved_any (s : ByteArray) (w : World) : Calls Tryz.prog 85 #[.string s] w fun x w' => x = .returned (.bool (resB s)) ∧ Below w.heap.size w w' := by
  have hr : (wordsL.any fun y => s.toList == y.toList) = resB s := by
    unfold resB
    congr 1
    funext x
    exact BEq.comm
  go_enter Tryz.func85, Tryz.ntmps85
  have Hr := Lib.hid hr
  clear hr
  go_wp2_with (first | (go_at_call 117; refine (words_any _).mono ?_; rintro x w1 ⟨rfl, hl, hb1⟩) | (go_at_call 57; refine (containsS_any _ _ _ _ _ _ _ hl).mono ?_; rw [Hr.out]; rintro x w' ⟨rfl, rfl⟩))
  go_ret
  exact ⟨rfl, hb1⟩

theorem letter_any (c : UInt8) (w : World) : Calls Tryz.prog 143 #[.int .u8 (c.toNat : Int)] w fun x w' => x = .returned (.bool (letterB c)) ∧ w = w' := by
  go_enter Tryz.func143, Tryz.ntmps143
  go_wp2
  all_goals
    go_ret
    refine ⟨ret_bool ?_, rfl⟩
    rw [Bool.eq_iff_iff]
    simp [letterB]
    omega

theorem part_any (c : UInt8) (w : World) : Calls Tryz.prog 144 #[.int .u8 (c.toNat : Int)] w fun x w' => x = .returned (.bool (partB c)) ∧ w = w' := by
  cases hl : letterB c with
  | true =>
    have h := letter_any c w
    rw [hl] at h
    have H := Lib.hid h
    have Hl := Lib.hid hl
    clear h hl
    go_enter Tryz.func144, Tryz.ntmps144
    go_wp2_with (go_at_call 143; refine H.out.mono ?_; rintro x w' ⟨rfl, rfl⟩)
    all_goals
      go_ret
      refine ⟨ret_bool ?_, rfl⟩
      simp [partB, Hl.out]
  | false =>
    have h := letter_any c w
    rw [hl] at h
    have H := Lib.hid h
    have Hl := Lib.hid hl
    clear h hl
    go_enter Tryz.func144, Tryz.ntmps144
    go_wp2_with (go_at_call 143; refine H.out.mono ?_; rintro x w' ⟨rfl, rfl⟩)
    all_goals
      go_ret
      refine ⟨ret_bool ?_, rfl⟩
      rw [Bool.eq_iff_iff]
      simp [partB, Hl.out]
      omega

theorem bytesBelow (w : World) (e : TypeId) (s : ByteArray) : Below w.heap.size w (Lib.bytesWorld w e s) := by
  refine ⟨?_, ?_, ?_, by rw [Lib.bytesWorld_size]; omega, fun k hk => Lib.bytesWorld_at_old w e s k hk⟩
  · simp [Lib.bytesWorld, World.freeze]; rfl
  · simp [Lib.bytesWorld, World.freeze]
  · simp [Lib.bytesWorld, World.freeze]; rfl

theorem list_of (s : ByteArray) (h : 0 < s.size) : ∃ c r, s.data.toList = c :: r ∧ s[0] = c ∧ r.length + 1 = s.size := by
  have hl : s.data.toList.length = s.size := by simp
  have h2 : s.data.toList[0]? = some s[0] := by
    rw [List.getElem?_eq_getElem (by rw [hl]; exact h)]; rfl
  match hs : s.data.toList, hl with
  | [], hl => simp at hl; omega
  | c :: r, hl =>
    refine ⟨c, r, rfl, ?_, by simpa using hl⟩
    rw [hs] at h2
    exact (Option.some.inj h2).symm

theorem letter_part {c : UInt8} (h : letterB c = true) : partB c = true := by simp [partB, h]

theorem bytes_nil (s : ByteArray) : s.toList = [] ↔ s.size = 0 := by
  rw [ByteArray.toList_eq, ← List.length_eq_zero_iff]
  simp

set_option maxHeartbeats 400000 in
theorem named_any (s : ByteArray) (w : World) : Calls Tryz.prog 123 #[.string s] w fun x w' => x = .returned (.bool (namedB s)) ∧ Below w.heap.size w w' := by
  by_cases h0 : s.size = 0
  · have hn : namedB s = false := by
      unfold namedB
      have : s.data.toList = [] := List.eq_nil_of_length_eq_zero (by simpa using h0)
      rw [this]
    have Hn := Lib.hid hn
    have he : s.toList = [] := (bytes_nil s).2 h0
    clear h0 hn
    go_enter Tryz.func123, Tryz.ntmps123
    go_wp2
    go_ret
    exact ⟨by rw [Hn.out]; rfl, Below.refl _ _⟩
  · have he : s.toList.isEmpty = false := by
      cases hx : s.toList with
      | nil => exact absurd ((bytes_nil s).1 hx) h0
      | cons a l => rfl
    have hpos : 0 < s.size := by omega
    obtain ⟨c, r, hs, hc, hl⟩ := list_of s hpos
    have Hs := Lib.hid hs
    clear hs
    by_cases h16 : 16 < s.size
    · have hn : namedB s = false := by
        unfold namedB
        rw [Hs.out]
        simp; omega
      have Hn := Lib.hid hn
      have h17 : (16 : Int) < (s.size : Int) := by omega
      clear hn hc hl h0
      go_enter Tryz.func123, Tryz.ntmps123
      go_wp2
      go_ret
      exact ⟨by rw [Hn.out]; rfl, Below.refl _ _⟩
    · have hL := letter_any s[0] w
      rw [hc] at hL
      have hn : namedB s = (letterB c && r.all partB) := by
        unfold namedB
        rw [Hs.out]
        have h3 : decide (r.length + 1 ≤ 16) = true := by simp; omega
        simp only [h3, Bool.true_and]
      obtain ⟨q, hq⟩ : ∃ q, letterB c = q := ⟨_, rfl⟩
      rw [hq] at hL hn
      have Hl := Lib.hid hL
      have Hq := Lib.hid hq
      have Hc := Lib.hid hc
      have Hlen := Lib.hid hl
      have Hn := Lib.hid hn
      clear hL hq hc hl hn h0
      have hle : (s.size : Int) ≤ 16 := by omega
      cases q
      · go_enter Tryz.func123, Tryz.ntmps123
        go_wp2_with (go_at_call 143; rw [Hc.out]; refine Hl.out.mono ?_; rintro x w' ⟨rfl, rfl⟩)
        go_ret
        exact ⟨by rw [Hn.out]; rfl, Below.refl _ _⟩
      · have hcv := fun (W : World) => Lib.run_convert_string_bytes (P := Tryz.prog) W 9 110 5 s Tryz.underlying9 Tryz.underlying110 Tryz.underlying5
        have hcell := Lib.bytesWorld_cell w 5 s
        have Hcell := Lib.hid hcell
        clear hcell
        have hbel := bytesBelow w 5 s
        go_enter Tryz.func123, Tryz.ntmps123
        go_wp2_with (go_at_call 143; rw [Hc.out]; refine Hl.out.mono ?_; rintro x w' ⟨rfl, rfl⟩)
        generalize Lib.bytesWorld w 5 s = wb at *
        go_loop [21] (fun i => ∃ k : Nat, k ≤ s.size ∧ i = .int .i64 k ∧ ∀ y ∈ s.data.toList.take k, partB y = true) (fun i => s.size - (intOf i).toNat)
        case atStart => exact ⟨0, Nat.zero_le _, rfl, by simp⟩
        case round =>
          obtain ⟨k, hk, rfl, hall⟩ := hrel
          have Hall := Lib.hid hall
          clear hall hcv
          by_cases hlt : k < s.size
          · have hc1 := Hcell.out k hlt
            obtain ⟨y, hy⟩ : ∃ y, s.data.toList[k]? = some y := ⟨_, List.getElem?_eq_getElem (by simpa using hlt)⟩
            rw [List.getD_eq_getElem?_getD, hy, Option.getD_some] at hc1
            have Hy := Lib.hid hy
            have hp := part_any y wb
            obtain ⟨z, hz⟩ : ∃ z, partB y = z := ⟨_, rfl⟩
            rw [hz] at hp
            have Hp := Lib.hid hp
            have Hz := Lib.hid hz
            clear hp hz hy
            cases z
            · go_wp2_with (go_at_call 144; refine Hp.out.mono ?_; rintro x w' ⟨rfl, rfl⟩)
              go_ret
              refine ⟨?_, hbel⟩
              rw [Hn.out]
              have hm := List.mem_of_getElem? Hy.out
              rw [Hs.out] at hm
              refine ret_bool ?_
              rw [Bool.true_and, eq_comm, List.all_eq_false]
              rcases List.mem_cons.1 hm with rfl | hm
              · have := letter_part Hq.out
                rw [Hz.out] at this; cases this
              · exact ⟨y, hm, by rw [Hz.out]; simp⟩
            · have Hnx := Lib.hid (mem_take_succ Hy.out Hall.out Hz.out)
              go_wp2_with (go_at_call 144; refine Hp.out.mono ?_; rintro x w' ⟨rfl, rfl⟩)
              go_round
              case rel => exact ⟨k + 1, by omega, by go_num, Hnx.out⟩
              case measure => simp [intOf]; omega
          · go_wp2
            go_ret
            refine ⟨?_, hbel⟩
            have h1 := Hall.out
            rw [List.take_of_length_le (by simp; omega), Hs.out] at h1
            rw [Hn.out]
            refine ret_bool ?_
            rw [Bool.true_and, eq_comm, List.all_eq_true]
            exact fun z hz => h1 z (by simp [hz])

set_option maxHeartbeats 400000 in
theorem namedL_any (F : Nat → Prop) (A : Option Addr) (n c : Nat) (xs : List ByteArray) (w : World) (h : LsAt F w 1 SRow A n c xs) :
    Calls Tryz.prog 90 #[.slice A n c] w fun x w' => x = .returned (.bool (xs.all namedB)) ∧ Below w.heap.size w w' := by
  have hn := h.n_le
  have Hl := Lib.hid h.len
  go_enter Tryz.func90, Tryz.ntmps90
  go_wp2
  go_loopw [7] (fun i wr => ∃ k : Nat, k ≤ n ∧ i = .int .i64 k ∧ (∀ y ∈ xs.take k, namedB y = true) ∧ Below w.heap.size w wr) (fun i _ => n - (intOf i).toNat)
  case atStart => exact ⟨0, Nat.zero_le _, rfl, by simp, Below.refl _ _⟩
  case round =>
    obtain ⟨k, hk, rfl, hall, hb⟩ := hrel
    have Hall := Lib.hid hall; clear hall
    by_cases hlt : k < n
    · obtain ⟨b, o, x, rfl, hbl, hx, hs, hc0⟩ := strAt (h.below hb) hlt
      have hc := named_any x wr
      obtain ⟨q, hq⟩ : ∃ q, namedB x = q := ⟨_, rfl⟩
      rw [hq] at hc
      have Hc := Lib.hid hc
      have Hq := Lib.hid hq
      have Hx := Lib.hid hx
      clear hc hq hx
      cases q
      · go_wp2_with (go_at_call 123; refine Hc.out.mono ?_; rintro y w1 ⟨rfl, hb1⟩)
        go_ret
        refine ⟨ret_bool ?_, hb.trans (hb1.mono hb.size)⟩
        rw [eq_comm, List.all_eq_false]
        exact ⟨x, List.mem_of_getElem? Hx.out, by rw [Hq.out]; simp⟩
      · have Hnx := Lib.hid (mem_take_succ Hx.out Hall.out Hq.out)
        go_wp2_with (go_at_call 123; refine Hc.out.mono ?_; rintro y w1 ⟨rfl, hb1⟩)
        go_roundw
        case rel => exact ⟨k + 1, by omega, by go_num, Hnx.out, hb.trans (hb1.mono hb.size)⟩
        case measure => simp [intOf]; omega
    · go_wp2
      go_ret
      refine ⟨ret_bool ?_, hb⟩
      have h1 := Hall.out
      rw [List.take_of_length_le (by rw [Hl.out]; omega)] at h1
      rw [eq_comm, List.all_eq_true]
      exact h1

set_option maxHeartbeats 400000 in
theorem indexRes_any (F : Nat → Prop) (A : Option Addr) (n c : Nat) (xs : List ByteArray) (w : World) (h : LsAt F w 1 SRow A n c xs) :
    Calls Tryz.prog 118 #[.slice A n c, .func (.func 85) #[] #[]] w fun x w' => x = .returned (.int .i64 (posB resB xs)) ∧ Below w.heap.size w w' := by
  have hn := h.n_le
  have Hl := Lib.hid h.len
  go_enter Tryz.func118, Tryz.ntmps118
  go_wp2
  go_loopw [8] (fun i wr => ∃ k : Nat, k ≤ n ∧ i = .int .i64 k ∧ (∀ y ∈ xs.take k, resB y = false) ∧ Below w.heap.size w wr) (fun i _ => n - (intOf i).toNat)
  case atStart => exact ⟨0, Nat.zero_le _, rfl, by simp, Below.refl _ _⟩
  case round =>
    obtain ⟨k, hk, rfl, hall, hb⟩ := hrel
    have Hall := Lib.hid hall; clear hall
    by_cases hlt : k < n
    · obtain ⟨b, o, x, rfl, hbl, hx, hs, hc0⟩ := strAt (h.below hb) hlt
      have hc := reserved_any x wr
      obtain ⟨q, hq⟩ : ∃ q, resB x = q := ⟨_, rfl⟩
      rw [hq] at hc
      have Hc := Lib.hid hc
      have Hq := Lib.hid hq
      have Hx := Lib.hid hx
      clear hc hq hx
      cases q
      · have Hnx := Lib.hid (mem_take_succ Hx.out Hall.out Hq.out)
        go_wp2_with (go_at_call 85; refine Hc.out.mono ?_; rintro y w1 ⟨rfl, hb1⟩)
        go_roundw
        case rel => exact ⟨k + 1, by omega, by go_num, Hnx.out, hb.trans (hb1.mono hb.size)⟩
        case measure => simp [intOf]; omega
      · have Hf := Lib.hid (posB_yes Hx.out Hq.out Hall.out)
        go_wp2_with (go_at_call 85; refine Hc.out.mono ?_; rintro y w1 ⟨rfl, hb1⟩)
        go_ret
        exact ⟨by rw [Hf.out]; rfl, hb.trans (hb1.mono hb.size)⟩
    · go_wp2
      go_ret
      have h1 := Hall.out
      rw [List.take_of_length_le (by rw [Hl.out]; omega)] at h1
      exact ⟨by rw [posB_no h1]; rfl, hb⟩

theorem containsRes_any (F : Nat → Prop) (A : Option Addr) (n c : Nat) (xs : List ByteArray) (w : World) (h : LsAt F w 1 SRow A n c xs) :
    Calls Tryz.prog 87 #[.slice A n c, .func (.func 85) #[] #[]] w fun x w' => x = .returned (.bool (xs.any resB)) ∧ Below w.heap.size w w' := by
  have hi := indexRes_any F A n c xs w h
  have hp := posB_any resB xs
  generalize xs.any resB = r at *
  generalize posB resB xs = i at *
  have Hp := Lib.hid hp
  have Hi := Lib.hid hi
  clear hp hi
  go_enter Tryz.func87, Tryz.ntmps87
  go_wp2_with (go_at_call 118; refine Hi.out.mono ?_; rintro x w' ⟨rfl, hb⟩)
  go_ret
  exact ⟨ret_bool Hp.out, hb⟩

theorem free_any (F : Nat → Prop) (A : Option Addr) (n c : Nat) (xs : List ByteArray) (w : World) (h : LsAt F w 1 SRow A n c xs) :
    Calls Tryz.prog 55 #[.slice A n c] w fun x w' => x = .returned (.bool (freesB xs)) ∧ Below w.heap.size w w' := by
  have h1 := namedL_any F A n c xs w h
  have h2 := fun W (hW : Below w.heap.size w W) => containsRes_any F A n c xs W (h.below hW)
  have hf : freesB xs = (xs.all namedB && !xs.any resB) := rfl
  generalize xs.any resB = r at *
  generalize xs.all namedB = q at *
  have Hf := Lib.hid hf
  have H1 := Lib.hid h1
  have H2 := Lib.hid h2
  clear h1 h2 hf
  cases q
  · go_enter Tryz.func55, Tryz.ntmps55
    go_wp2_with (go_at_call 90; refine H1.out.mono ?_; rintro x w1 ⟨rfl, hb1⟩)
    go_ret
    exact ⟨ret_bool (by rw [Hf.out]; rfl), hb1⟩
  · go_enter Tryz.func55, Tryz.ntmps55
    go_wp2_with (first | (go_at_call 90; refine H1.out.mono ?_; rintro x w1 ⟨rfl, hb1⟩) | (go_at_call 87; refine (H2.out _ hb1).mono ?_; rintro x w2 ⟨rfl, hb2⟩))
    go_ret
    exact ⟨ret_bool (by rw [Hf.out]; rfl), hb1.trans (hb2.mono hb1.size)⟩
end Go.Proofs.YtlakeanldbdedaaGreat
