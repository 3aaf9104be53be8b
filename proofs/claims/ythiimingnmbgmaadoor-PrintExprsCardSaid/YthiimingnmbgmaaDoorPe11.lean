/- Parts of this proof, one behind the other: SynG, SynY. -/
import Derived.Test.YthiimingnmbgmaaDoorPe10
import Derived.Test.YthiimingnmbgmaaDoorPe6
namespace Go.Proofs.YthiimingnmbgmaaDoor
open Go.RowKit Go.Afx

def BuiltsE (F : Nat → Prop) (d : Nat) : Prop := ∀ (e : Ex) (row : List Value) (w : World), ExAt F d w row e →
  Calls Tryd.prog 28 #[.agg row.toArray] w fun x w' => x = .returned (.bool (builtE d e)) ∧ Below w.heap.size w w'

theorem builtC_any (F : Nat → Prop) (d : Nat) (ih : BuiltsE F d) (e : Ex) (row : List Value) (w : World) (h : ExAt F d w row e) :
    Calls Tryd.prog 46 #[.agg row.toArray] w fun x w' => x = .returned (.bool (!builtE d e)) ∧ Below w.heap.size w w' := by
  cases d with
  | zero => exact h.elim
  | succ d =>
    have h' := h
    obtain ⟨A, m, c, rfl, hl⟩ := h.open_.2.2.2.2.2
    have hb1 : Below w.heap.size w (w.alloc (.cells #[.int .i64 e.op, .int .i64 e.n, .string e.s, .string e.name, .string e.src, .slice A m c] 35)) := (Below.refl _ _).alloc (Nat.le_refl _) _
    have Hc := Lib.hid (ih e _ _ (h'.below hb1))
    generalize builtE (d + 1) e = r at *
    go_enter Tryd.func46, Tryd.ntmps46
    go_wp2_with (go_at_call 28; refine Hc.out.mono ?_; rintro x w1 ⟨rfl, hb⟩)
    go_ret
    exact ⟨ret_bool (by simp), hb1.trans (hb.mono hb1.size)⟩

set_option maxHeartbeats 400000 in
theorem indexBuilt_any (F : Nat → Prop) (d : Nat) (ih : BuiltsE F d) (A : Option Addr) (n c : Nat) (es : List Ex) (w : World) (h : ExsAt F d w A n c es) :
    Calls Tryd.prog 57 #[.slice A n c, .func (.func 46) #[] #[]] w fun x w' => x = .returned (.int .i64 (posB (fun e => !builtE d e) es)) ∧ Below w.heap.size w w' := by
  have hn := LsAt.n_le h
  have Hl := Lib.hid (LsAt.len h)
  go_enter Tryd.func57, Tryd.ntmps57
  go_wp2
  go_loopw [8] (fun i wr => ∃ k : Nat, k ≤ n ∧ i = .int .i64 k ∧ (∀ y ∈ es.take k, (!builtE d y) = false) ∧ Below w.heap.size w wr) (fun i _ => n - (intOf i).toNat)
  case atStart => exact ⟨0, Nat.zero_le _, rfl, by simp, Below.refl _ _⟩
  case round =>
    obtain ⟨k, hk, rfl, hall, hb⟩ := hrel
    have Hall := Lib.hid hall; clear hall
    by_cases hlt : k < n
    · cases d with
      | zero =>
        obtain ⟨b, o, r, e, hA, hbl, _, he, hl, hp, hc⟩ := LsAt.get (h.below hb) hlt
        exact hp.elim
      | succ d =>
        obtain ⟨b, o, e, A2, m2, c2, rfl, hbl, hx, hc0, hc1, hc2, hc3, hc4, hc5, hp, _⟩ := ExsAt.get (h.below hb) hlt
        have hc := builtC_any F (d + 1) ih e _ wr hp
        obtain ⟨q, hq⟩ : ∃ q, (!builtE (d + 1) e) = q := ⟨_, rfl⟩
        rw [hq] at hc
        have Hc := Lib.hid hc
        have Hq := Lib.hid hq
        have Hx := Lib.hid hx
        clear hc hq hx
        cases q
        · have Hnx := Lib.hid (mem_take_succ Hx.out Hall.out Hq.out)
          go_wp2_with (go_at_call 46; refine Hc.out.mono ?_; rintro y w1 ⟨rfl, hb1⟩)
          go_roundw
          case rel => exact ⟨k + 1, by omega, by go_num, Hnx.out, hb.trans (hb1.mono hb.size)⟩
          case measure => simp [intOf]; omega
        · have Hf := Lib.hid (posB_yes (p := fun e => !builtE (d + 1) e) Hx.out Hq.out Hall.out)
          go_wp2_with (go_at_call 46; refine Hc.out.mono ?_; rintro y w1 ⟨rfl, hb1⟩)
          go_ret
          exact ⟨by rw [Hf.out]; rfl, hb.trans (hb1.mono hb.size)⟩
    · go_wp2
      go_ret
      have h1 := Hall.out
      rw [List.take_of_length_le (by rw [Hl.out]; omega)] at h1
      exact ⟨by rw [posB_no h1]; rfl, hb⟩

theorem containsBuilt_any (F : Nat → Prop) (d : Nat) (ih : BuiltsE F d) (A : Option Addr) (n c : Nat) (es : List Ex) (w : World) (h : ExsAt F d w A n c es) :
    Calls Tryd.prog 45 #[.slice A n c, .func (.func 46) #[] #[]] w fun x w' => x = .returned (.bool (!es.all (builtE d))) ∧ Below w.heap.size w w' := by
  have hi := indexBuilt_any F d ih A n c es w h
  have hp := posB_any (fun e => !builtE d e) es
  have hq : (es.any fun e => !builtE d e) = !es.all (builtE d) := by
    induction es with
    | nil => rfl
    | cons a r _ => simp [List.any_eq_not_all_not]
  rw [hq] at hp
  generalize es.all (builtE d) = r at *
  generalize posB (fun e => !builtE d e) es = i at *
  have Hp := Lib.hid hp
  have Hi := Lib.hid hi
  clear hp hi hq
  go_enter Tryd.func45, Tryd.ntmps45
  go_wp2_with (go_at_call 57; refine Hi.out.mono ?_; rintro x w' ⟨rfl, hb⟩)
  go_ret
  exact ⟨ret_bool Hp.out, hb⟩

set_option maxHeartbeats 1000000 in
theorem builtE_any (F : Nat → Prop) (d : Nat) : BuiltsE F d := by
  induction d with
  | zero => intro e row w h; exact h.elim
  | succ d ih =>
    intro e row w h
    obtain ⟨ho, hn, hs, hnm, hsr, A, m, c, rfl, hl⟩ := h.open_
    have hlen := LsAt.len hl
    have hb1 : Below w.heap.size w (w.alloc (.cells #[.int .i64 e.op, .int .i64 e.n, .string e.s, .string e.name, .string e.src, .slice A m c] 35)) := (Below.refl _ _).alloc (Nat.le_refl _) _
    have hx1 : IsBlk (w.alloc (.cells #[.int .i64 e.op, .int .i64 e.n, .string e.s, .string e.name, .string e.src, .slice A m c] 35)) w.heap.size 35 #[.int .i64 e.op, .int .i64 e.n, .string e.s, .string e.name, .string e.src, .slice A m c] := IsBlk.laid _ _ _
    have Hx1 := Lib.hid hx1
    have Ha := Lib.hid (args_any e.op)
    have Hf := Lib.hid (fun W => fields_any e.op e.n e.s e.name e.src A m c W hnm hs hsr)
    have Hc := Lib.hid (fun W (hW : Below w.heap.size w W) => containsBuilt_any F d ih A m c e.args W (hl.below hW))
    have hfin : builtE (d + 1) e = (decide (arityB e.op = (m : Int)) && fieldsR e.op e.n e.s e.name e.src && e.args.all (builtE d)) := by
      rw [← hlen]; rfl
    generalize fieldsR e.op e.n e.s e.name e.src = q at *
    generalize e.args.all (builtE d) = r at *
    generalize builtE (d + 1) e = fin at *
    have Hfin := Lib.hid hfin
    clear hfin hlen hx1
    generalize arityB e.op = ar at *
    by_cases har : ar = (m : Int)
    · have hb : (ar == (m : Int)) = true := by simpa using har
      have Har := Lib.hid har
      clear har
      cases q
      · go_enter Tryd.func28, Tryd.ntmps28
        go_wp2_with (first | (go_at_call 43; refine (Ha.out _).mono ?_; rintro x w' ⟨rfl, rfl⟩) | (go_at_call 44; refine (Hf.out _).mono ?_; rintro x w2 ⟨rfl, hb2⟩))
        go_ret
        exact ⟨ret_bool (by rw [Hfin.out]; simp), hb1.trans (hb2.mono hb1.size)⟩
      · go_enter Tryd.func28, Tryd.ntmps28
        go_wp2_with (first | (go_at_call 43; refine (Ha.out _).mono ?_; rintro x w' ⟨rfl, rfl⟩) | (go_at_call 44; refine (Hf.out _).mono ?_; rintro x w2 ⟨rfl, hb2⟩; have hb02 := hb1.trans (hb2.mono hb1.size); have hx2 := Hx1.out.as_was (hb2.block _ Hx1.out.lt); have x25 := hx2.cell 5; simp at x25) | (go_at_call 45; refine (Hc.out _ hb02).mono ?_; rintro x w3 ⟨rfl, hb3⟩))
        go_ret
        exact ⟨ret_bool (by rw [Hfin.out]; simp [Har.out]), hb02.trans (hb3.mono hb02.size)⟩
    · have hb : (ar == (m : Int)) = false := by simpa using har
      have Har := Lib.hid har
      clear har
      go_enter Tryd.func28, Tryd.ntmps28
      go_wp2_with (go_at_call 43; refine (Ha.out _).mono ?_; rintro x w' ⟨rfl, rfl⟩)
      go_ret
      exact ⟨ret_bool (by rw [Hfin.out]; simp [Har.out]), hb1⟩
end Go.Proofs.YthiimingnmbgmaaDoor

namespace Go.Proofs.YthiimingnmbgmaaDoor
end Go.Proofs.YthiimingnmbgmaaDoor
