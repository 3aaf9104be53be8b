/- Syntax, part J: whether a statement has just what its op has. -/
import Derived.Test.YtgihhkfppnhdpaaSynI
import Derived.Deep.Cut
namespace Go.Proofs.Ytgihhkfppnhdpaa
open Go.RowKit Go.Afx

theorem hasT_any (s : ByteArray) (w : World) (hs : okS s) : Calls Try.prog 88 #[.bool true, .string s] w fun x w' => ∃ A n c, x = .returned (.slice A n c) ∧ LsAt (fun _ => True) w' 1 SRow A n c [s] ∧ Below w.heap.size w w' := has_any true s w hs
theorem hasF_any (s : ByteArray) (w : World) : Calls Try.prog 88 #[.bool false, .string s] w fun x w' => x = .returned (.slice none 0 0) ∧ w = w' := by
  go_enter Try.func88, Try.ntmps88
  go_wp2
  go_ret
  exact ⟨rfl, rfl⟩
theorem freeN_any (w : World) : Calls Try.prog 9 #[.slice none 0 0] w fun x w' => x = .returned (.bool true) ∧ Below w.heap.size w w' := free_any (fun _ => True) none 0 0 [] w (LsAt.nil_ _ _ _ _)
theorem freesB_one (s : ByteArray) : freesB [s] = freeB s := by rw [freesB_all]; simp
theorem str_empty {s : ByteArray} (h : noS s = true) : s.toList = [] := by rw [noS_nil] at h; simpa using h
theorem str_some {s : ByteArray} (h : noS s = false) : s.toList.isEmpty = false := by rw [noS_nil] at h; exact h

theorem stBox {w : World} {g : Nat} {T : TypeId} {op n : Int} {name src : ByteArray} {Ac Ae Ab Al : Option Addr} {nc cc ne ce nb cb nl cl : Nat}
    (h : IsBlk w g T #[.int .i64 op, .string name, .string src, .int .i64 n, .slice Ac nc cc, .slice Ae ne ce, .slice Ab nb cb, .slice Al nl cl]) :
    w.cell? ⟨g, 1, none⟩ = some (.string name) ∧ w.cell? ⟨g, 2, none⟩ = some (.string src) ∧ w.cell? ⟨g, 3, none⟩ = some (.int .i64 n) ∧ w.cell? ⟨g, 4, none⟩ = some (.slice Ac nc cc) ∧ w.cell? ⟨g, 5, none⟩ = some (.slice Ae ne ce) ∧ w.cell? ⟨g, 6, none⟩ = some (.slice Ab nb cb) ∧ w.cell? ⟨g, 7, none⟩ = some (.slice Al nl cl) ∧ g < w.heap.size := by
  have h1 := h.cell 1; have h2 := h.cell 2; have h3 := h.cell 3; have h4 := h.cell 4; have h5 := h.cell 5; have h6 := h.cell 6; have h7 := h.cell 7
  simp at h1 h2 h3 h4 h5 h6 h7
  exact ⟨h1, h2, h3, h4, h5, h6, h7, h.lt⟩

end Go.Proofs.Ytgihhkfppnhdpaa
