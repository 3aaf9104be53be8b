/- Syntax, part Z3: the walk of SyntaxWords. -/
import Derived.Test.YtgihhkfppnhdpaaSynZ2
namespace Go.Proofs.Ytgihhkfppnhdpaa
open Go.RowKit Go.Afx

theorem freesB_two (s t : ByteArray) : freesB [s, t] = (freeB s && freeB t) := by rw [freesB_all]; simp

set_option maxRecDepth 100000 in
set_option maxHeartbeats 4000000 in
theorem words_walk (s t : ByteArray) (w : World) (hs : okS s) (ht : okS t) : Calls Try.prog 3 #[.string s, .string t] w fun x w' => x = .returned (.bool true) ∧ Below w.heap.size w w' := by
  have Haw := Lib.hid (fun W => awake_any W)
  have hs' := hs
  have ht' := ht
  unfold okS at hs' ht'
  by_cases h1 : 100 < s.size
  · have hd : decide ((100 : Int) < (s.size : Int)) = true := by simp; omega
    go_enter Try.func3, Try.ntmps3
    go_wp2_with (go_at_call 6; refine (Haw.out _).mono ?_; rintro x w1 ⟨rfl, hb1⟩)
    go_ret
    exact ⟨rfl, hb1⟩
  · have hd : decide ((100 : Int) < (s.size : Int)) = false := by simp; omega
    by_cases h2 : 100 < t.size
    · have hd2 : decide ((100 : Int) < (t.size : Int)) = true := by simp; omega
      go_enter Try.func3, Try.ntmps3
      go_wp2_with (go_at_call 6; refine (Haw.out _).mono ?_; rintro x w1 ⟨rfl, hb1⟩)
      go_ret
      exact ⟨rfl, hb1⟩
    · have hd2 : decide ((100 : Int) < (t.size : Int)) = false := by simp; omega
      have HR := Lib.hid (fun W => reserved_any s W)
      have HR2 := Lib.hid (fun W => resRef_any s W)
      have HF := Lib.hid (fun (W : World) A m c (h : LsAt (fun _ => True) W 1 SRow A m c [s]) => free_any _ A m c _ W h)
      have HF2 := Lib.hid (fun (W : World) A m c (h : LsAt (fun _ => True) W 1 SRow A m c [s, t]) => free_any _ A m c _ W h)
      have HG := Lib.hid (fun W => freeRef_any s W hs)
      have HG2 := Lib.hid (fun W => freeRef_any t W ht)
      rw [freesB_one] at HF
      rw [freesB_two] at HF2
      generalize resB s = r at *
      generalize freeB s = q1 at *
      generalize freeB t = q2 at *
      have hR : Below w.heap.size w w := Below.refl _ _
      cases r <;> cases q1 <;> cases q2
      all_goals
        go_enter Try.func3, Try.ntmps3
        go_wp2_with (first
          | (go_at_call 7; refine (HR.out _).mono ?_; rintro x w1 ⟨rfl, hb1⟩; replace hR := hR.trans (hb1.mono hR.size))
          | (go_at_call 8; refine (HR2.out _).mono ?_; rintro x w2 ⟨rfl, hb2⟩; replace hR := hR.trans (hb2.mono hR.size))
          | (go_at_call 9; with_reducible refine (freeN_any _).mono ?_; rintro x w3 ⟨rfl, hb3⟩; replace hR := hR.trans (hb3.mono hR.size))
          | (go_at_call 9; with_reducible refine (HF.out _ _ _ _ (strs_one 9 s rfl hs)).mono ?_; rintro x w4 ⟨rfl, hb4⟩; replace hR := (hR.alloc hR.size _).trans (hb4.mono (by have := hR.size; simp; omega)))
          | (go_at_call 9; with_reducible refine (HF2.out _ _ _ _ (strs_two 9 s t rfl hs ht)).mono ?_; rintro x w5 ⟨rfl, hb5⟩; replace hR := (hR.alloc hR.size _).trans (hb5.mono (by have := hR.size; simp; omega)))
          | (go_at_call 10; with_reducible refine (HG.out _).mono ?_; rintro x w6 ⟨rfl, hb6⟩; replace hR := hR.trans (hb6.mono hR.size))
          | (go_at_call 10; with_reducible refine (HG2.out _).mono ?_; rintro x w7 ⟨rfl, hb7⟩; replace hR := hR.trans (hb7.mono hR.size))
          | (go_at_call 6; refine (Haw.out _).mono ?_; rintro x w8 ⟨rfl, hb8⟩; replace hR := hR.trans (hb8.mono hR.size)))
        go_ret
        exact ⟨ret_bool (by simp), hR⟩
end Go.Proofs.Ytgihhkfppnhdpaa
