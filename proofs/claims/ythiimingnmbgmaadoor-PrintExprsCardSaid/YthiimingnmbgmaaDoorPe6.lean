/- Parts of this proof, one behind the other: SynX, SynA. -/
import Derived.Test.YthiimingnmbgmaaDoorPe5
import Derived.Test.YthiimingnmbgmaaDoorProg
import Derived.WalkSpells
import Derived.WalkLawsBesides
import Derived.Deep.QuietTactic
import Derived.BigQuiet
import Derived.BigRegion
import Derived.Outline
import Derived.Lib.Hide
namespace Go.Afx
open Go.RowKit

def maxN (l : List Nat) : Nat := l.foldr max 0
theorem maxN_cons (a : Nat) (l : List Nat) : maxN (a :: l) = max a (maxN l) := rfl
theorem maxN_le {b : Nat} : ∀ {l : List Nat}, (∀ x ∈ l, x ≤ b) → maxN l ≤ b := by
  intro l
  induction l with
  | nil => intro _; simp [maxN]
  | cons a r ih => intro h; rw [maxN_cons]; have := h a (by simp); have := ih fun x hx => h x (by simp [hx]); omega
def dptE : Nat → Ex → Nat
  | 0, _ => 0
  | d + 1, e => 1 + maxN (e.args.map (dptE d))
def dptS : Nat → St → Nat
  | 0, _ => 0
  | d + 1, x => 1 + max (max (maxN (x.exprs.map (dptE d))) (maxN (x.body.map (dptS d)))) (maxN (x.els.map (dptS d)))
theorem dptE_le (d : Nat) : ∀ e, dptE d e ≤ d := by
  induction d with
  | zero => intro e; simp [dptE]
  | succ d ih =>
    intro e
    have : maxN (e.args.map (dptE d)) ≤ d := maxN_le fun x hx => by obtain ⟨y, _, rfl⟩ := List.mem_map.1 hx; exact ih y
    rw [dptE]; omega
theorem dptS_le (d : Nat) : ∀ e, dptS d e ≤ d := by
  induction d with
  | zero => intro e; simp [dptS]
  | succ d ih =>
    intro e
    have h1 : maxN (e.exprs.map (dptE d)) ≤ d := maxN_le fun x hx => by obtain ⟨y, _, rfl⟩ := List.mem_map.1 hx; exact dptE_le d y
    have h2 : maxN (e.body.map (dptS d)) ≤ d := maxN_le fun x hx => by obtain ⟨y, _, rfl⟩ := List.mem_map.1 hx; exact ih y
    have h3 : maxN (e.els.map (dptS d)) ≤ d := maxN_le fun x hx => by obtain ⟨y, _, rfl⟩ := List.mem_map.1 hx; exact ih y
    rw [dptS]; omega

/-- 's counts N nodes and a depth of H, as far as is counted' -/
def Cts (s : Int × Int) (N H : Nat) : Prop := s.1 = min (N : Int) 1000 ∧ (N < 1000 → s.2 = H) ∧ H ≤ 900
theorem Cts.nought : Cts (0, 0) 0 0 := ⟨by decide, fun _ => rfl, by omega⟩
theorem Cts.add {s t : Int × Int} {N H M K : Nat} (h : Cts s N H) (k : Cts t M K) : Cts (addZ s t) (N + M) (max H K) := by
  obtain ⟨h1, h2, h3⟩ := h
  obtain ⟨k1, k2, k3⟩ := k
  refine ⟨?_, fun hl => ?_, by omega⟩
  · simp only [addZ]; omega
  · have a := h2 (by omega)
    have b := k2 (by omega)
    simp only [addZ]; omega
theorem Cts.over {s : Int × Int} {N H : Nat} (h : Cts s N H) (hH : H + 1 ≤ 900) : Cts (overZ s) (1 + N) (1 + H) := by
  obtain ⟨h1, h2, h3⟩ := h
  refine ⟨?_, fun hl => ?_, by omega⟩
  · simp only [overZ]; omega
  · have a := h2 (by omega)
    simp only [overZ]; omega
theorem Cts.all {α : Type} {lv : Int} {one : α → Int × Int} {f g : α → Nat} (hlv : lv < 1000) (h : ∀ x, Cts (one x) (f x) (g x)) : ∀ (l : List α) {s : Int × Int} {N H : Nat}, Cts s N H → Cts (allZ lv one s l) (N + (l.map f).sum) (max H (maxN (l.map g))) := by
  intro l
  induction l with
  | nil => intro s N H hs; simpa [allZ, maxN] using hs
  | cons x r ih =>
    intro s N H hs
    rw [List.map_cons, List.map_cons, List.sum_cons, maxN_cons]
    unfold allZ
    split
    · rename_i hf
      obtain ⟨h1, h2, h3⟩ := hs
      have hN : ¬ N < 1000 := by
        intro hN
        have a := h2 hN
        simp only [fullZ, Bool.or_eq_true, decide_eq_true_eq] at hf
        omega
      have hg : ∀ l : List α, maxN (l.map g) ≤ 900 := fun l => maxN_le fun y hy => by obtain ⟨z, _, rfl⟩ := List.mem_map.1 hy; exact (h z).2.2
      have := hg r
      have := (h x).2.2
      exact ⟨by simp; omega, fun hl => absurd hl (by omega), by omega⟩
    · have := ih (hs.add (h x))
      rw [Nat.add_assoc, Nat.max_assoc] at this
      exact this
theorem sizeE_cts (d : Nat) : ∀ (lv : Int) (e : Ex), lv + d ≤ 900 → d ≤ 900 → Cts (sizeE d lv e) (cntE d e) (dptE d e) := by
  induction d with
  | zero => intro lv e _ _; exact Cts.nought
  | succ d ih =>
    intro lv e h hd
    rw [sizeE, cntE, dptE]
    have := Cts.all (lv := lv + 1) (by omega) (fun x => ih (lv + 1) x (by omega) (by omega)) e.args Cts.nought
    rw [Nat.zero_add, Nat.zero_max] at this
    refine this.over ?_
    have := dptE_le (d + 1) e
    rw [dptE] at this
    omega
theorem sizeS_cts (d : Nat) : ∀ (lv : Int) (e : St), lv + d ≤ 900 → d ≤ 900 → Cts (sizeS d lv e) (cntS d e) (dptS d e) := by
  induction d with
  | zero => intro lv e _ _; exact Cts.nought
  | succ d ih =>
    intro lv e h hd
    rw [sizeS, cntS, dptS]
    have h1 := Cts.all (lv := lv + 1) (by omega) (fun x => sizeE_cts d (lv + 1) x (by omega) (by omega)) e.exprs Cts.nought
    have h2 := Cts.all (lv := lv + 1) (by omega) (fun x => ih (lv + 1) x (by omega) (by omega)) e.body Cts.nought
    have h3 := Cts.all (lv := lv + 1) (by omega) (fun x => ih (lv + 1) x (by omega) (by omega)) e.els Cts.nought
    rw [Nat.zero_add, Nat.zero_max] at h1 h2 h3
    rw [Nat.add_assoc 1, Nat.add_assoc 1]
    refine ((h1.add h2).add h3).over ?_
    have := dptS_le (d + 1) e
    rw [dptS] at this
    omega

def cntP (d : Nat) (p : Pr) : Nat := (p.body.map (cntS d)).sum
def dptP (d : Nat) (p : Pr) : Nat := maxN (p.body.map (dptS d))
theorem sizeP_cts (d : Nat) (p : Pr) (hd : d ≤ 900) : Cts (sizeP d p) (cntP d p) (dptP d p) := by
  have := Cts.all (lv := 0) (by omega) (fun x => sizeS_cts d 0 x (by omega) hd) p.body Cts.nought
  rw [Nat.zero_add, Nat.zero_max] at this
  exact this
theorem small_cnt {d : Nat} {p : Pr} (hd : d ≤ 900) (h : smallZ (sizeP d p) = true) : cntP d p ≤ 300 ∧ dptP d p ≤ 12 := by
  obtain ⟨h1, h2, _⟩ := sizeP_cts d p hd
  simp only [smallZ, Bool.and_eq_true, decide_eq_true_eq] at h
  have : cntP d p ≤ 300 := by omega
  have := h2 (by omega)
  omega

def readsP (d : Nat) (p : Pr) : List ByteArray := if rightB d p then p.body.flatMap (readsS d) else []
def writesP (d : Nat) (p : Pr) : List ByteArray := if rightB d p then p.body.flatMap (writesS d) else []
def emitsP (d : Nat) (p : Pr) : List ByteArray := if rightB d p then p.body.flatMap (emitsS d) else []
end Go.Afx

namespace Go.Proofs.YthiimingnmbgmaaDoor
open Go.RowKit Go.Afx


theorem over_any (a b : Int) (w : World) (ha : 0 ≤ a) (hb : 0 ≤ b) (ha' : a ≤ 1000) (hb' : b ≤ 1000) :
    Calls Tryd.prog 41 #[.agg #[.int .i64 a, .int .i64 b]] w fun e w' => e = .returned (.agg #[.int .i64 (overZ (a, b)).1, .int .i64 (overZ (a, b)).2]) ∧ Below w.heap.size w w' := by
  go_enter Tryd.func41, Tryd.ntmps41
  go_wp2
  all_goals
    refine bodyPost_ret (v := .agg #[.int .i64 (overZ (a, b)).1, .int .i64 (overZ (a, b)).2]) ?_ rfl ⟨rfl, ?_⟩
    · simp [results, Tryd.results41, go_sem, overZ]
      omega
    · exact ((Below.refl _ _).alloc (Nat.le_refl _) _).alloc (by simp) _

theorem full_any (g : Nat) (a b : Int) (w : World) (hk : IsBlk w g 74 #[.int .i64 a, .int .i64 b]) :
    Calls Tryd.prog 54 #[.pointer (some ⟨g, 0, none⟩)] w fun e w' => e = .returned (.bool (fullZ (a, b))) ∧ w = w' := by
  have h0 := hk.cell 0
  have h1 := hk.cell 1
  simp at h0 h1
  have hlt := hk.lt
  go_enter Tryd.func54, Tryd.ntmps54
  go_wp2
  all_goals
    go_ret
    refine ⟨ret_bool ?_, rfl⟩
    simp_all [fullZ]

theorem blk_two {w : World} {g : Nat} {T : TypeId} {a b x y X Y : Int} {o : Obj} (hk : IsBlk w g T #[.int .i64 a, .int .i64 b]) (hx : X = x) (hy : Y = y) :
    IsBlk (((w.setCell ⟨g, 0, none⟩ (.int .i64 X)).setCell ⟨g, 1, none⟩ (.int .i64 Y)).alloc o).drew g T #[.int .i64 x, .int .i64 y] := by
  subst hx hy
  exact ((hk.stored 0 _).stored 1 _).alloc o
theorem ret_ib {a b : Int} {x y : Bool} (h : a = b) (k : x = y) : Ending.returned (.tuple #[.int .i64 a, .bool x]) = .returned (.tuple #[.int .i64 b, .bool y]) := by rw [h, k]

theorem add_any (g : Nat) (a b c d : Int) (w : World) (hk : IsBlk w g 74 #[.int .i64 a, .int .i64 b]) (ha : 0 ≤ a) (ha' : a ≤ 1000) (hc : 0 ≤ c) (hc' : c ≤ 1000) :
    Calls Tryd.prog 55 #[.pointer (some ⟨g, 0, none⟩), .agg #[.int .i64 c, .int .i64 d]] w fun e w' => e = .returned (.tuple #[]) ∧
      IsBlk w' g 74 #[.int .i64 (addZ (a, b) (c, d)).1, .int .i64 (addZ (a, b) (c, d)).2] ∧ But (fun k => k = g) w w' := by
  have h0 := hk.cell 0
  have h1 := hk.cell 1
  simp at h0 h1
  have hlt := hk.lt
  have hfz := hk.frozen
  go_enter Tryd.func55, Tryd.ntmps55
  go_wp2
  go_region
  all_goals go_wp2
  all_goals
    go_end0
    exact ⟨rfl, blk_two hk (by simp only [addZ]; omega) (by simp only [addZ]; omega), ((((But.refl (fun k => k = g) w).setCell (p := ⟨g, 0, none⟩) (.inl rfl) _).setCell (p := ⟨g, 1, none⟩) (.inl rfl) _).alloc _).drew⟩
theorem small_any (g : Nat) (a b : Int) (w : World) (hk : IsBlk w g 74 #[.int .i64 a, .int .i64 b]) :
    Calls Tryd.prog 27 #[.pointer (some ⟨g, 0, none⟩)] w fun e w' => e = .returned (.bool (smallZ (a, b))) ∧ w = w' := by
  have h0 := hk.cell 0
  have h1 := hk.cell 1
  simp at h0 h1
  have hlt := hk.lt
  go_enter Tryd.func27, Tryd.ntmps27
  go_wp2
  all_goals
    go_ret
    refine ⟨ret_bool ?_, rfl⟩
    simp_all [smallZ]
    try omega

theorem args_any (op : Int) (w : World) :
    Calls Tryd.prog 43 #[.int .i64 op] w fun e w' => e = .returned (.tuple #[.int .i64 (arityB op), .bool (rowsB op)]) ∧ w = w' := by
  go_enter Tryd.func43, Tryd.ntmps43
  go_wp2
  all_goals
    go_ret2
    (try simp only [beq_iff_eq, beq_eq_false_iff_ne, ne_eq] at *)
    first | (exfalso; omega) | exact ⟨ret_ib (by unfold arityB; repeat (first | rw [if_pos (by omega)] | rw [if_neg (by omega)])) (by simp [rowsB]; try omega), by first | rfl | trivial⟩
end Go.Proofs.YthiimingnmbgmaaDoor
