/- Parts of this proof, one behind the other: PrtY1, PrtY2. -/
import Derived.Test.YtmgldjpdhpopnaaGreatDoorPp34
import Derived.Test.YtmgldjpdhpopnaaGreatDoorPp33
import Derived.Deep.RegionHeld3
set_option maxRecDepth 1000000
set_option maxHeartbeats 40000000
namespace Go.Proofs.YtmgldjpdhpopnaaGreatDoor
open Go.RowKit Go.Afx
def RTx (w : World) (f : FuncId) (args : Array Value) (T : ByteArray) : Prop := ∀ W, Below w.heap.size w W → Calls Tryz.prog f args W fun e' w' => e' = .returned (.string T) ∧ Below W.heap.size W w'
theorem RTx.at_ {w w1 : World} {f : FuncId} {args : Array Value} {T : ByteArray} (h : RTx w f args T) (h1 : Below w.heap.size w w1) (W : World) (hW : Below w1.heap.size w1 W) : Calls Tryz.prog f args W fun e' w' => e' = .returned (.string T) ∧ Below w1.heap.size w1 w' := (h W (h1.trans (hW.mono h1.size))).mono fun _ _ ⟨e, h2⟩ => ⟨e, hW.trans (h2.mono hW.size)⟩
theorem bind_op (op : Int) (h1 : 6 ≤ op) (h2 : op ≤ 20) : ∃ G : ByteArray, G.data.toList = sgnL op ∧ G.size ≤ 5 ∧ ∀ W, Calls Tryz.prog 174 #[.int .i64 op] W fun e w' => e = .returned (.tuple #[.string G, .int .i64 (lvlZ op)]) ∧ Below W.heap.size W w' := by
 refine ⟨⟨(sgnL op).toArray⟩, rfl, ?_, fun W => ?_⟩
 ·rw [arr_size]; exact sgnL_len (by omega) (by omega)
 ·have h := bind_any op W (by omega) (by omega)
  unfold BindQ bindS at h
  rw [if_neg (by omega)] at h
  exact h
theorem Six.later {w w' : World} {b o : Nat} {e : Ex} {A : Option Addr} {m c : Nat} (h : Six w b o e A m c) (hb : b < w.heap.size) (hw : Below w.heap.size w w') : w'.cell? ⟨b, o, none⟩ = some (.int .i64 e.op) ∧ w'.cell? ⟨b, o + 1, none⟩ = some (.int .i64 e.n) ∧ w'.cell? ⟨b, o + 2, none⟩ = some (.string e.s) ∧ w'.cell? ⟨b, o + 3, none⟩ = some (.string e.name) ∧ w'.cell? ⟨b, o + 4, none⟩ = some (.string e.src) ∧ w'.cell? ⟨b, o + 5, none⟩ = some (.slice A m c) ∧ b < w'.heap.size :=
 have h2 := h.below hb hw
 ⟨h2.1, h2.2.1, h2.2.2.1, h2.2.2.2.1, h2.2.2.2.2.1, h2.2.2.2.2.2, Nat.lt_of_lt_of_le hb hw.size⟩
theorem refx_int (N : Nat) (hN : N < 10 ^ 19) (s name src : ByteArray) (A : Option Addr) (m c : Nat) (w : World)  :
  Calls Tryz.prog 139 #[.agg #[.int .i64 1, .int .i64 N, .string s, .string name, .string src, .slice A m c]] w fun e' w' => e' = .returned (.string ⟨(decS N).toArray⟩) ∧ Below w.heap.size w w' := by
 have Hsg := Lhd (fun W => bind_any 1 W (by decide) (by decide))
 have Hpr := Lhd (fun W => refPrint_any N hN W)
 obtain ⟨w1, Hw1⟩ : ∃ w1, Hid (w1 = w.alloc (.cells #[.int .i64 1, .int .i64 N, .string s, .string name, .string src, .slice A m c] 32)) := ⟨_, rfl⟩
 have hb1 : Below w.heap.size w w1 := by rw [Hw1.out]; exact (Below.refl _ _).alloc (Nat.le_refl _) _
 have hk1 : IsBlk w1 w.heap.size 32 #[.int .i64 1, .int .i64 N, .string s, .string name, .string src, .slice A m c] := by rw [Hw1.out]; exact IsBlk.laid _ _ _
 have Hx := Lhd (fun W (hW : Below w1.heap.size w1 W) => box6 (hk1.as_was (hW.block _ hk1.lt)))
 have Hb1 := Lhd hb1
 obtain ⟨x0, x1, x2, x3, x4, x5, xl⟩ := Hx.out _ (Below.refl _ _)
 clear hb1 hk1 hN
 go_enter Tryz.func139, Tryz.ntmps139
 go_upto_region 1 with (fail)
 rw [← Hw1.out]
 go_wp2_with (go_at_call 174; refine (Hsg.out _).mono ?_)
 rintro x w2 ⟨rfl, hb2⟩
 obtain ⟨y0, y1, y2, y3, y4, y5, yl⟩ := Hx.out _ hb2
 have Hb2 := Lhd (Hb1.out.trans (hb2.mono Hb1.out.size))
 clear x0 x1 x2 x3 x4 x5 xl hb2
 go_wp2_with (go_at_call 42; refine (Hpr.out _).mono ?_)
 rintro x w3 ⟨rfl, hb3⟩
 have Hb3 := Lhd (Hb2.out.trans (hb3.mono Hb2.out.size))
 clear hb3
 go_wp2
 go_ret
 exact ⟨rfl, Hb3.out⟩
theorem refx_text (n : Int) (s name src : ByteArray) (A : Option Addr) (m c : Nat) (w : World) (hs : s.size ≤ 1000000) :
  Calls Tryz.prog 139 #[.agg #[.int .i64 2, .int .i64 n, .string s, .string name, .string src, .slice A m c]] w fun e' w' => e' = .returned (.string ⟨(quoteS s).toArray⟩) ∧ Below w.heap.size w w' := by
 have Hsg := Lhd (fun W => bind_any 2 W (by decide) (by decide))
 have Hpr := Lhd (fun W => refText_any s W hs)
 obtain ⟨w1, Hw1⟩ : ∃ w1, Hid (w1 = w.alloc (.cells #[.int .i64 2, .int .i64 n, .string s, .string name, .string src, .slice A m c] 32)) := ⟨_, rfl⟩
 have hb1 : Below w.heap.size w w1 := by rw [Hw1.out]; exact (Below.refl _ _).alloc (Nat.le_refl _) _
 have hk1 : IsBlk w1 w.heap.size 32 #[.int .i64 2, .int .i64 n, .string s, .string name, .string src, .slice A m c] := by rw [Hw1.out]; exact IsBlk.laid _ _ _
 have Hx := Lhd (fun W (hW : Below w1.heap.size w1 W) => box6 (hk1.as_was (hW.block _ hk1.lt)))
 have Hb1 := Lhd hb1
 obtain ⟨x0, x1, x2, x3, x4, x5, xl⟩ := Hx.out _ (Below.refl _ _)
 clear hb1 hk1 hs
 go_enter Tryz.func139, Tryz.ntmps139
 go_upto_region 1 with (fail)
 rw [← Hw1.out]
 go_wp2_with (go_at_call 174; refine (Hsg.out _).mono ?_)
 rintro x w2 ⟨rfl, hb2⟩
 obtain ⟨y0, y1, y2, y3, y4, y5, yl⟩ := Hx.out _ hb2
 have Hb2 := Lhd (Hb1.out.trans (hb2.mono Hb1.out.size))
 clear x0 x1 x2 x3 x4 x5 xl hb2
 go_wp2_with (go_at_call 175; refine (Hpr.out _).mono ?_)
 rintro x w3 ⟨rfl, hb3⟩
 have Hb3 := Lhd (Hb2.out.trans (hb3.mono Hb2.out.size))
 clear hb3
 go_wp2
 go_ret
 exact ⟨rfl, Hb3.out⟩
theorem refx_true (s name src : ByteArray) (A : Option Addr) (m c : Nat) (w : World)  :
  Calls Tryz.prog 139 #[.agg #[.int .i64 3, .int .i64 1, .string s, .string name, .string src, .slice A m c]] w fun e' w' => e' = .returned (.string ⟨(trueL).toArray⟩) ∧ Below w.heap.size w w' := by
 have Hsg := Lhd (fun W => bind_any 3 W (by decide) (by decide))
 have Hpr := Lhd (fun W => (show Calls Tryz.prog 175 #[.agg #[.int .i64 3, .int .i64 1, .string ⟨#[]⟩]] W fun e w2 => e = .returned (.string ⟨trueL.toArray⟩) ∧ Below W.heap.size W w2 from refBool_any true W))
 obtain ⟨w1, Hw1⟩ : ∃ w1, Hid (w1 = w.alloc (.cells #[.int .i64 3, .int .i64 1, .string s, .string name, .string src, .slice A m c] 32)) := ⟨_, rfl⟩
 have hb1 : Below w.heap.size w w1 := by rw [Hw1.out]; exact (Below.refl _ _).alloc (Nat.le_refl _) _
 have hk1 : IsBlk w1 w.heap.size 32 #[.int .i64 3, .int .i64 1, .string s, .string name, .string src, .slice A m c] := by rw [Hw1.out]; exact IsBlk.laid _ _ _
 have Hx := Lhd (fun W (hW : Below w1.heap.size w1 W) => box6 (hk1.as_was (hW.block _ hk1.lt)))
 have Hb1 := Lhd hb1
 obtain ⟨x0, x1, x2, x3, x4, x5, xl⟩ := Hx.out _ (Below.refl _ _)
 clear hb1 hk1
 go_enter Tryz.func139, Tryz.ntmps139
 go_upto_region 1 with (fail)
 rw [← Hw1.out]
 go_wp2_with (go_at_call 174; refine (Hsg.out _).mono ?_)
 rintro x w2 ⟨rfl, hb2⟩
 obtain ⟨y0, y1, y2, y3, y4, y5, yl⟩ := Hx.out _ hb2
 have Hb2 := Lhd (Hb1.out.trans (hb2.mono Hb1.out.size))
 clear x0 x1 x2 x3 x4 x5 xl hb2
 go_wp2_with (go_at_call 175; refine (Hpr.out _).mono ?_)
 rintro x w3 ⟨rfl, hb3⟩
 have Hb3 := Lhd (Hb2.out.trans (hb3.mono Hb2.out.size))
 clear hb3
 go_wp2
 go_ret
 exact ⟨rfl, Hb3.out⟩
theorem refx_false (s name src : ByteArray) (A : Option Addr) (m c : Nat) (w : World)  :
  Calls Tryz.prog 139 #[.agg #[.int .i64 3, .int .i64 0, .string s, .string name, .string src, .slice A m c]] w fun e' w' => e' = .returned (.string ⟨(falseL).toArray⟩) ∧ Below w.heap.size w w' := by
 have Hsg := Lhd (fun W => bind_any 3 W (by decide) (by decide))
 have Hpr := Lhd (fun W => (show Calls Tryz.prog 175 #[.agg #[.int .i64 3, .int .i64 0, .string ⟨#[]⟩]] W fun e w2 => e = .returned (.string ⟨falseL.toArray⟩) ∧ Below W.heap.size W w2 from refBool_any false W))
 obtain ⟨w1, Hw1⟩ : ∃ w1, Hid (w1 = w.alloc (.cells #[.int .i64 3, .int .i64 0, .string s, .string name, .string src, .slice A m c] 32)) := ⟨_, rfl⟩
 have hb1 : Below w.heap.size w w1 := by rw [Hw1.out]; exact (Below.refl _ _).alloc (Nat.le_refl _) _
 have hk1 : IsBlk w1 w.heap.size 32 #[.int .i64 3, .int .i64 0, .string s, .string name, .string src, .slice A m c] := by rw [Hw1.out]; exact IsBlk.laid _ _ _
 have Hx := Lhd (fun W (hW : Below w1.heap.size w1 W) => box6 (hk1.as_was (hW.block _ hk1.lt)))
 have Hb1 := Lhd hb1
 obtain ⟨x0, x1, x2, x3, x4, x5, xl⟩ := Hx.out _ (Below.refl _ _)
 clear hb1 hk1
 go_enter Tryz.func139, Tryz.ntmps139
 go_upto_region 1 with (fail)
 rw [← Hw1.out]
 go_wp2_with (go_at_call 174; refine (Hsg.out _).mono ?_)
 rintro x w2 ⟨rfl, hb2⟩
 obtain ⟨y0, y1, y2, y3, y4, y5, yl⟩ := Hx.out _ hb2
 have Hb2 := Lhd (Hb1.out.trans (hb2.mono Hb1.out.size))
 clear x0 x1 x2 x3 x4 x5 xl hb2
 go_wp2_with (go_at_call 175; refine (Hpr.out _).mono ?_)
 rintro x w3 ⟨rfl, hb3⟩
 have Hb3 := Lhd (Hb2.out.trans (hb3.mono Hb2.out.size))
 clear hb3
 go_wp2
 go_ret
 exact ⟨rfl, Hb3.out⟩
theorem refx_var (n : Int) (s name src : ByteArray) (A : Option Addr) (m c : Nat) (w : World)  :
  Calls Tryz.prog 139 #[.agg #[.int .i64 4, .int .i64 n, .string s, .string name, .string src, .slice A m c]] w fun e' w' => e' = .returned (.string ⟨(name.data.toList).toArray⟩) ∧ Below w.heap.size w w' := by
 have Hsg := Lhd (fun W => bind_any 4 W (by decide) (by decide))
 obtain ⟨w1, Hw1⟩ : ∃ w1, Hid (w1 = w.alloc (.cells #[.int .i64 4, .int .i64 n, .string s, .string name, .string src, .slice A m c] 32)) := ⟨_, rfl⟩
 have hb1 : Below w.heap.size w w1 := by rw [Hw1.out]; exact (Below.refl _ _).alloc (Nat.le_refl _) _
 have hk1 : IsBlk w1 w.heap.size 32 #[.int .i64 4, .int .i64 n, .string s, .string name, .string src, .slice A m c] := by rw [Hw1.out]; exact IsBlk.laid _ _ _
 have Hx := Lhd (fun W (hW : Below w1.heap.size w1 W) => box6 (hk1.as_was (hW.block _ hk1.lt)))
 have Hb1 := Lhd hb1
 obtain ⟨x0, x1, x2, x3, x4, x5, xl⟩ := Hx.out _ (Below.refl _ _)
 clear hb1 hk1
 go_enter Tryz.func139, Tryz.ntmps139
 go_upto_region 1 with (fail)
 rw [← Hw1.out]
 go_wp2_with (go_at_call 174; refine (Hsg.out _).mono ?_)
 rintro x w2 ⟨rfl, hb2⟩
 obtain ⟨y0, y1, y2, y3, y4, y5, yl⟩ := Hx.out _ hb2
 have Hb2 := Lhd (Hb1.out.trans (hb2.mono Hb1.out.size))
 clear x0 x1 x2 x3 x4 x5 xl hb2
 go_wp2
 go_ret
 exact ⟨ret_str (by simp ), Hb2.out⟩
theorem refx_col (n : Int) (s name src : ByteArray) (A : Option Addr) (m c : Nat) (w : World) (hn : name.size ≤ 1000000) (hs : s.size ≤ 1000000) :
  Calls Tryz.prog 139 #[.agg #[.int .i64 5, .int .i64 n, .string s, .string name, .string src, .slice A m c]] w fun e' w' => e' = .returned (.string ⟨(name.data.toList ++ [46] ++ s.data.toList).toArray⟩) ∧ Below w.heap.size w w' := by
 have Hsg := Lhd (fun W => bind_any 5 W (by decide) (by decide))
 obtain ⟨w1, Hw1⟩ : ∃ w1, Hid (w1 = w.alloc (.cells #[.int .i64 5, .int .i64 n, .string s, .string name, .string src, .slice A m c] 32)) := ⟨_, rfl⟩
 have hb1 : Below w.heap.size w w1 := by rw [Hw1.out]; exact (Below.refl _ _).alloc (Nat.le_refl _) _
 have hk1 : IsBlk w1 w.heap.size 32 #[.int .i64 5, .int .i64 n, .string s, .string name, .string src, .slice A m c] := by rw [Hw1.out]; exact IsBlk.laid _ _ _
 have Hx := Lhd (fun W (hW : Below w1.heap.size w1 W) => box6 (hk1.as_was (hW.block _ hk1.lt)))
 have Hb1 := Lhd hb1
 obtain ⟨x0, x1, x2, x3, x4, x5, xl⟩ := Hx.out _ (Below.refl _ _)
 have n1 : ¬ 9223372036854775807 < name.size + 1 := by omega
 have n2 : ¬ 9223372036854775807 < name.size + 1 + s.size := by omega
 clear hb1 hk1 hn hs
 go_enter Tryz.func139, Tryz.ntmps139
 go_upto_region 1 with (fail)
 rw [← Hw1.out]
 go_wp2_with (go_at_call 174; refine (Hsg.out _).mono ?_)
 rintro x w2 ⟨rfl, hb2⟩
 obtain ⟨y0, y1, y2, y3, y4, y5, yl⟩ := Hx.out _ hb2
 have Hb2 := Lhd (Hb1.out.trans (hb2.mono Hb1.out.size))
 clear x0 x1 x2 x3 x4 x5 xl hb2
 go_wp2
 go_ret
 exact ⟨ret_str (by simp [ByteArray.data_append]), Hb2.out⟩
theorem refx_one (op n lv : Int) (s name src : ByteArray) (b o c : Nat) (a1 : Ex) (A1 : Option Addr) (m1 c1 : Nat) (S1 : ByteArray) (w : World) (hop : op = 19 ∧ lv = 3 ∨ op = 20 ∧ lv = 7) (hbl : b < w.heap.size)
  (hS1 : Six w b o a1 A1 m1 c1) (hD1 : RTx w 176 #[.agg (rowOf a1 A1 m1 c1).toArray, .int .i64 lv] S1) (hlen : S1.size ≤ 1000000000) :
  Calls Tryz.prog 139 #[.agg #[.int .i64 op, .int .i64 n, .string s, .string name, .string src, .slice (some ⟨b, o, none⟩) 1 c]] w fun e' w' => e' = .returned (.string ⟨(sgnL op ++ S1.data.toList).toArray⟩) ∧ Below w.heap.size w w' := by
 obtain ⟨G, hG, hGs, hb0⟩ := bind_op op (by omega) (by omega)
 rw [← hG]
 have hlv : lvlZ op = lv := by rcases hop with ⟨rfl, rfl⟩ | ⟨rfl, rfl⟩ <;> rfl
 rw [hlv] at hb0
 have Hsg := Lhd hb0
 have n1 : ¬ 9223372036854775807 < G.size + S1.size := by omega
 have HS1 := Lhd (fun W (hW : Below w.heap.size w W) => hS1.later hbl hW)
 have HD1 := Lhd hD1
 clear hb0 hlv hG hGs hlen hS1 hD1 hbl
 rcases hop with ⟨rfl, rfl⟩ | ⟨rfl, rfl⟩
 ·obtain ⟨w1, Hw1⟩ : ∃ w1, Hid (w1 = w.alloc (.cells #[.int .i64 19, .int .i64 n, .string s, .string name, .string src, .slice (some ⟨b, o, none⟩) 1 c] 32)) := ⟨_, rfl⟩
  have hb1 : Below w.heap.size w w1 := by rw [Hw1.out]; exact (Below.refl _ _).alloc (Nat.le_refl _) _
  have hk1 : IsBlk w1 w.heap.size 32 #[.int .i64 19, .int .i64 n, .string s, .string name, .string src, .slice (some ⟨b, o, none⟩) 1 c] := by rw [Hw1.out]; exact IsBlk.laid _ _ _
  have Hx := Lhd (fun W (hW : Below w1.heap.size w1 W) => box6 (hk1.as_was (hW.block _ hk1.lt)))
  have Hb1 := Lhd hb1
  obtain ⟨x0, x1, x2, x3, x4, x5, xl⟩ := Hx.out _ (Below.refl _ _)
  clear hb1 hk1
  go_enter Tryz.func139, Tryz.ntmps139
  go_upto_region 1 with (fail)
  rw [← Hw1.out]
  go_wp2_with (go_at_call 174; refine (Hsg.out _).mono ?_)
  rintro x w2 ⟨rfl, hb2⟩
  obtain ⟨y0, y1, y2, y3, y4, y5, yl⟩ := Hx.out _ hb2
  have Hb2 := Lhd (Hb1.out.trans (hb2.mono Hb1.out.size))
  obtain ⟨z0, z1, z2, z3, z4, z5, zl⟩ := HS1.out _ Hb2.out
  clear x0 x1 x2 x3 x4 x5 xl hb2
  go_wp2_with (go_at_call 176; refine (HD1.out _ Hb2.out).mono ?_)
  rintro x w3 ⟨rfl, hb3⟩
  have Hb3 := Lhd (Hb2.out.trans (hb3.mono Hb2.out.size))
  clear hb3
  go_wp2
  go_ret
  exact ⟨ret_str (by simp [ByteArray.data_append]), Hb3.out⟩
 ·obtain ⟨w1, Hw1⟩ : ∃ w1, Hid (w1 = w.alloc (.cells #[.int .i64 20, .int .i64 n, .string s, .string name, .string src, .slice (some ⟨b, o, none⟩) 1 c] 32)) := ⟨_, rfl⟩
  have hb1 : Below w.heap.size w w1 := by rw [Hw1.out]; exact (Below.refl _ _).alloc (Nat.le_refl _) _
  have hk1 : IsBlk w1 w.heap.size 32 #[.int .i64 20, .int .i64 n, .string s, .string name, .string src, .slice (some ⟨b, o, none⟩) 1 c] := by rw [Hw1.out]; exact IsBlk.laid _ _ _
  have Hx := Lhd (fun W (hW : Below w1.heap.size w1 W) => box6 (hk1.as_was (hW.block _ hk1.lt)))
  have Hb1 := Lhd hb1
  obtain ⟨x0, x1, x2, x3, x4, x5, xl⟩ := Hx.out _ (Below.refl _ _)
  clear hb1 hk1
  go_enter Tryz.func139, Tryz.ntmps139
  go_upto_region 1 with (fail)
  rw [← Hw1.out]
  go_wp2_with (go_at_call 174; refine (Hsg.out _).mono ?_)
  rintro x w2 ⟨rfl, hb2⟩
  obtain ⟨y0, y1, y2, y3, y4, y5, yl⟩ := Hx.out _ hb2
  have Hb2 := Lhd (Hb1.out.trans (hb2.mono Hb1.out.size))
  obtain ⟨z0, z1, z2, z3, z4, z5, zl⟩ := HS1.out _ Hb2.out
  clear x0 x1 x2 x3 x4 x5 xl hb2
  go_wp2_with (go_at_call 176; refine (HD1.out _ Hb2.out).mono ?_)
  rintro x w3 ⟨rfl, hb3⟩
  have Hb3 := Lhd (Hb2.out.trans (hb3.mono Hb2.out.size))
  clear hb3
  go_wp2
  go_ret
  exact ⟨ret_str (by simp [ByteArray.data_append]), Hb3.out⟩
end Go.Proofs.YtmgldjpdhpopnaaGreatDoor
