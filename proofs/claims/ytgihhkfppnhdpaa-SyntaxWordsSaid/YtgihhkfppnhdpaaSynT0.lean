/- Syntax, part T: what a statement uses. -/
import Derived.Test.YtgihhkfppnhdpaaSynS
import Derived.Deep.CutRange
namespace Go.Proofs.Ytgihhkfppnhdpaa
open Go.RowKit Go.Afx Go.Maps Go.WideMaps

def NB (b1 b2 b3 : Nat) : Nat → Prop := fun k => k ≠ b1 ∧ k ≠ b2 ∧ k ≠ b3
def S3 (b1 b2 b3 : Nat) : Nat → Prop := fun k => k = b1 ∨ k = b2 ∨ k = b3
theorem nb_kept {b1 b2 b3 : Nat} {w w' : World} (h : But (S3 b1 b2 b3) w w') : Kept (NB b1 b2 b3) w w' := Kept.of_but h fun k hk hs => by
  obtain ⟨h1, h2, h3⟩ := hk
  rcases hs with rfl | rfl | rfl
  · exact h1 rfl
  · exact h2 rfl
  · exact h3 rfl
/-- the three sets -/
structure Sets (w : World) (b1 b2 b3 : Nat) (L1 L2 L3 : List ByteArray) : Prop where
  one : UseAt w b1 L1
  two : UseAt w b2 L2
  three : UseAt w b3 L3
  n12 : b1 ≠ b2
  n13 : b1 ≠ b3
  n23 : b2 ≠ b3
section
variable {w w' : World} {b1 b2 b3 : Nat} {L1 L2 L3 : List ByteArray}
theorem Sets.below (h : Sets w b1 b2 b3 L1 L2 L3) (hb : Below w.heap.size w w') : Sets w' b1 b2 b3 L1 L2 L3 := ⟨h.one.below hb, h.two.below hb, h.three.below hb, h.n12, h.n13, h.n23⟩
theorem Sets.first {L : List ByteArray} (h : Sets w b1 b2 b3 L1 L2 L3) (hu : UseAt w' b1 L) (hb : But (fun k => k = b1) w w') : Sets w' b1 b2 b3 L L2 L3 := ⟨hu, h.two.but hb h.n12.symm, h.three.but hb h.n13.symm, h.n12, h.n13, h.n23⟩
theorem Sets.second {L : List ByteArray} (h : Sets w b1 b2 b3 L1 L2 L3) (hu : UseAt w' b2 L) (hb : But (fun k => k = b2) w w') : Sets w' b1 b2 b3 L1 L L3 := ⟨h.one.but hb h.n12, hu, h.three.but hb h.n23.symm, h.n12, h.n13, h.n23⟩
theorem Sets.third {L : List ByteArray} (h : Sets w b1 b2 b3 L1 L2 L3) (hu : UseAt w' b3 L) (hb : But (fun k => k = b3) w w') : Sets w' b1 b2 b3 L1 L2 L := ⟨h.one.but hb h.n13, h.two.but hb h.n23, hu, h.n12, h.n13, h.n23⟩
theorem but_s1 (hb : But (fun k => k = b1) w w') : But (S3 b1 b2 b3) w w' := hb.mono fun _ h => .inl (.inl h)
theorem but_s2 (hb : But (fun k => k = b2) w w') : But (S3 b1 b2 b3) w w' := hb.mono fun _ h => .inl (.inr (.inl h))
theorem but_s3 (hb : But (fun k => k = b3) w w') : But (S3 b1 b2 b3) w w' := hb.mono fun _ h => .inl (.inr (.inr h))
theorem grown_but {b : Nat} (h : w.grownBy w' (some b)) : But (fun k => k = b) w w' := But.grown (But.refl _ _) h (fun k hk => by cases hk; exact .inl rfl)
end

def UsesS (d : Nat) : Prop := ∀ (b1 b2 b3 : Nat) (x : St) (row : List Value) (w : World) (L1 L2 L3 : List ByteArray), StAt (NB b1 b2 b3) d w row x → Sets w b1 b2 b3 L1 L2 L3 →
  L1.length + cntS d x ≤ 1000000 → L2.length + cntS d x ≤ 1000000 → L3.length + cntS d x ≤ 1000000 →
  Calls Try.prog 53 #[.agg #[.map (some b1), .map (some b2), .map (some b3)], .agg row.toArray] w fun r w' => r = .returned (.tuple #[]) ∧ Sets w' b1 b2 b3 (L1 ++ readsS d x) (L2 ++ writesS d x) (L3 ++ emitsS d x) ∧ But (S3 b1 b2 b3) w w'

theorem stBox0 {w : World} {g : Nat} {T : TypeId} {op n : Int} {name src : ByteArray} {Ac Ae Ab Al : Option Addr} {nc cc ne ce nb cb nl cl : Nat} (h : IsBlk w g T #[.int .i64 op, .string name, .string src, .int .i64 n, .slice Ac nc cc, .slice Ae ne ce, .slice Ab nb cb, .slice Al nl cl]) :
    w.cell? ⟨g, 0, none⟩ = some (.int .i64 op) ∧ w.cell? ⟨g, 2, none⟩ = some (.string src) ∧ w.cell? ⟨g, 5, none⟩ = some (.slice Ae ne ce) ∧ w.cell? ⟨g, 6, none⟩ = some (.slice Ab nb cb) ∧ w.cell? ⟨g, 7, none⟩ = some (.slice Al nl cl) ∧ g < w.heap.size := by
  have h0 := h.cell 0; have h2 := h.cell 2; have h5 := h.cell 5; have h6 := h.cell 6; have h7 := h.cell 7
  simp at h0 h2 h5 h6 h7
  exact ⟨h0, h2, h5, h6, h7, h.lt⟩

/-- where body and else are one list -/
def Joined (b1 b2 b3 : Nat) (d : Nat) (ys : List St) (n : Nat) (Q : World → Prop) (s55 s56 s57 : Value) (W : World) : Prop :=
  ∃ A c, s55 = .slice A n c ∧ s56 = .int .i64 n ∧ s57 = .int .i64 0 ∧ StsAt (NB b1 b2 b3) d W A n c ys ∧ Q W

theorem joined_ls {b1 b2 b3 : Nat} {d : Nat} {W w6 : World} {T : TypeId} {A : Option Addr} {n c m : Nat} {rB rL : List (List Value)} {body els : List St} (hS : ∀ k, S3 b1 b2 b3 k → k < W.heap.size)
    (hown : w6.ownsRow W.heap.size T 8 (.slice A (n + m) c) (n + m) (rB ++ rL).flatten) (h8B : ∀ r ∈ rB, r.length = 8) (h8L : ∀ r ∈ rL, r.length = 8) (hlB : rB.length = n) (hlL : rL.length = m)
    (hb : rB.length = body.length) (hl : rL.length = els.length)
    (hpB : ∀ (k : Nat) (r : List Value) (x : St), rB[k]? = some r → body[k]? = some x → r.length = 8 ∧ StAt (NB b1 b2 b3) d W r x)
    (hpL : ∀ (k : Nat) (r : List Value) (x : St), rL[k]? = some r → els[k]? = some x → r.length = 8 ∧ StAt (NB b1 b2 b3) d W r x)
    (hW : But (S3 b1 b2 b3) W w6) : StsAt (NB b1 b2 b3) d w6 A (n + m) c (body ++ els) := by
  refine ⟨rB ++ rL, RowsAt.of_own hown (fun r h => by rcases List.mem_append.1 h with h | h <;> first | exact h8B r h | exact h8L r h) (by simp; omega), fun a ha h0 => ?_, by simp; omega, fun k r x hr hx => ?_⟩
  · subst ha
    have h := (hown.lt a.block rfl).1
    refine ⟨fun e => ?_, fun e => ?_, fun e => ?_⟩
    · have := hS _ (.inl e); omega
    · have := hS _ (.inr (.inl e)); omega
    · have := hS _ (.inr (.inr e)); omega
  · by_cases hk : k < rB.length
    · rw [List.getElem?_append_left hk] at hr
      rw [List.getElem?_append_left (by omega)] at hx
      obtain ⟨h1, h2⟩ := hpB k r x hr hx
      exact ⟨h1, h2.kept (nb_kept hW)⟩
    · rw [List.getElem?_append_right (by omega)] at hr
      rw [List.getElem?_append_right (by omega), ← hb] at hx
      obtain ⟨h1, h2⟩ := hpL _ r x hr hx
      exact ⟨h1, h2.kept (nb_kept hW)⟩
end Go.Proofs.Ytgihhkfppnhdpaa
