/- Parts of this proof, one behind the other: PrtJ. -/
import Derived.Test.YthiimingnmbgmaaDoorPe31
namespace Go.Proofs.YthiimingnmbgmaaDoor
open Go.RowKit Go.Afx

/-- six cells of an expression -/
def Six (w : World) (b o : Nat) (e : Ex) (A : Option Addr) (m c : Nat) : Prop := w.cell? ⟨b, o, none⟩ = some (.int .i64 e.op) ∧ w.cell? ⟨b, o + 1, none⟩ = some (.int .i64 e.n) ∧ w.cell? ⟨b, o + 2, none⟩ = some (.string e.s) ∧ w.cell? ⟨b, o + 3, none⟩ = some (.string e.name) ∧ w.cell? ⟨b, o + 4, none⟩ = some (.string e.src) ∧ w.cell? ⟨b, o + 5, none⟩ = some (.slice A m c)
theorem Six.wrote {w w' : World} {g b o : Nat} {e : Ex} {A : Option Addr} {m c : Nat} (h : Six w b o e A m c) (hb : b < g) (hw : Wrote g w w') : Six w' b o e A m c := by
  obtain ⟨h0, h1, h2, h3, h4, h5⟩ := h
  exact ⟨(hw.1.cell (p := ⟨b, o, none⟩) hb).trans h0, (hw.1.cell (p := ⟨b, o + 1, none⟩) hb).trans h1, (hw.1.cell (p := ⟨b, o + 2, none⟩) hb).trans h2, (hw.1.cell (p := ⟨b, o + 3, none⟩) hb).trans h3, (hw.1.cell (p := ⟨b, o + 4, none⟩) hb).trans h4, (hw.1.cell (p := ⟨b, o + 5, none⟩) hb).trans h5⟩
def rowOf (e : Ex) (A : Option Addr) (m c : Nat) : List Value := [.int .i64 e.op, .int .i64 e.n, .string e.s, .string e.name, .string e.src, .slice A m c]
theorem args_at {F : Nat → Prop} {d : Nat} {w : World} {row : List Value} {op n : Int} {s name src : ByteArray} {args : List Ex} (h : ExAt F (d + 1) w row (.mk op n s name src args)) :
    ∃ A c, row = [.int .i64 op, .int .i64 n, .string s, .string name, .string src, .slice A args.length c] ∧ args.length ≤ c ∧ c ≤ 9223372036854775807 ∧ (args ≠ [] → ∃ b o, A = some ⟨b, o, none⟩ ∧ F b ∧ b < w.heap.size ∧ ∀ k a, args[k]? = some a → ∃ A2 m2 c2, Six w b (o + k * 6) a A2 m2 c2 ∧ ExAt F d w (rowOf a A2 m2 c2) a) := by
  obtain ⟨_, _, _, _, _, A, m, c, rfl, hl⟩ := h.open_
  have hm : args.length = m := LsAt.len hl
  subst hm
  refine ⟨A, c, rfl, LsAt.n_c hl, LsAt.c_le hl, fun hne => ?_⟩
  have h0 : 0 < args.length := List.length_pos_iff.2 hne
  obtain ⟨b, o, r, x, hA, hb, hF, _⟩ := LsAt.get hl h0
  refine ⟨b, o, hA, hF, hb, fun k a hk => ?_⟩
  obtain ⟨hk2, _⟩ := List.getElem?_eq_some_iff.1 hk
  obtain ⟨b2, o2, r2, x2, hA2, hb2, hF2, hx2, hl2, hp2, hc2⟩ := LsAt.get hl hk2
  rw [hA] at hA2
  injection hA2 with hA2
  injection hA2 with e1 e2
  subst e1 e2
  rw [show (Ex.mk op n s name src args).args = args from rfl] at hx2
  rw [hk] at hx2
  injection hx2 with hx2
  subst hx2
  obtain ⟨A2, m2, c2, hr⟩ := ex_row hp2
  subst hr
  exact ⟨A2, m2, c2, ⟨by simpa using hc2 0 _ rfl, hc2 1 _ rfl, hc2 2 _ rfl, hc2 3 _ rfl, hc2 4 _ rfl, hc2 5 _ rfl⟩, hp2⟩

/-- a writing: what it does in any later world -/
def Does (g : Nat) (w : World) (f : FuncId) (args : Array Value) (T : List UInt8) (B : Bool) : Prop := ∀ W t br, Wrote g w W → WtAt g t br W → t.length + T.length ≤ 1000000000 → Calls Tryd.prog f args W fun e' w' => e' = .returned (.tuple #[]) ∧ WtAt g (t ++ T) (br || B) w' ∧ Wrote g W w'

set_option maxHeartbeats 4000000 in
theorem expr_two (op n lv lf : Int) (sg : List UInt8) (s name src : ByteArray) (b o c : Nat) (a1 a2 : Ex) (A1 A2 : Option Addr) (m1 c1 m2 c2 : Nat) (T1 T2 : List UInt8) (B1 B2 : Bool) (g : Nat) (t : List UInt8) (br : Bool) (w : World) (h6 : 6 ≤ op) (h18 : op ≤ 18) (hsg : sgnL op = sg) (hlv : lvlZ op = lv) (hlf : lf = if lv = 4 then lv + 1 else lv) (hl1 : 1 ≤ lv) (hl2 : lv ≤ 8) (h : WtAt g t br w) (hbg : b < g)
    (hS1 : Six w b o a1 A1 m1 c1) (hS2 : Six w b (o + 6) a2 A2 m2 c2)
    (hD1 : Does g w 36 #[.pointer (some ⟨g, 0, none⟩), .agg (rowOf a1 A1 m1 c1).toArray, .int .i64 lf] T1 B1)
    (hD2 : Does g w 36 #[.pointer (some ⟨g, 0, none⟩), .agg (rowOf a2 A2 m2 c2).toArray, .int .i64 (lv + 1)] T2 B2)
    (hlen : t.length + (T1 ++ ([32] ++ sg ++ [32]) ++ T2).length ≤ 1000000000) :
    Calls Tryd.prog 17 #[.pointer (some ⟨g, 0, none⟩), .agg #[.int .i64 op, .int .i64 n, .string s, .string name, .string src, .slice (some ⟨b, o, none⟩) 2 c]] w fun e' w' => e' = .returned (.tuple #[]) ∧ WtAt g (t ++ (T1 ++ ([32] ++ sg ++ [32]) ++ T2)) (br || (B1 || B2)) w' ∧ Wrote g w w' := by
  have Hsg := Lib.hid (fun W => (show Calls Tryd.prog 29 #[.int .i64 op] W fun e w' => e = .returned (.tuple #[.string ⟨sg.toArray⟩, .int .i64 lv]) ∧ Below W.heap.size W w' from by
    have h := sign_any op W (by omega) (by omega)
    unfold SignQ at h
    rw [hsg, hlv] at h
    exact h))
  clear hsg hlv
  have n1 : (op == 1) = false := by simp; omega
  have n2 : (op == 2) = false := by simp; omega
  have n3 : (op == 3) = false := by simp; omega
  have n4 : (op == 4) = false := by simp; omega
  have n5 : (op == 5) = false := by simp; omega
  have n19 : (op == 19) = false := by simp; omega
  have n20 : (op == 20) = false := by simp; omega
  have n21 : (op == 21) = false := by simp; omega
  have n22 : (op == 22) = false := by simp; omega
  have n23 : (op == 23) = false := by simp; omega
  have n24 : (op == 24) = false := by simp; omega
  clear h6 h18
  obtain ⟨w1, Hw1⟩ : ∃ w1, Hid (w1 = w.alloc (.cells #[.int .i64 op, .int .i64 n, .string s, .string name, .string src, .slice (some ⟨b, o, none⟩) 2 c] 35)) := ⟨_, rfl⟩
  have hb1 : Below w.heap.size w w1 := by rw [Hw1.out]; exact (Below.refl _ _).alloc (Nat.le_refl _) _
  have hk1 : IsBlk w1 w.heap.size 35 #[.int .i64 op, .int .i64 n, .string s, .string name, .string src, .slice (some ⟨b, o, none⟩) 2 c] := by rw [Hw1.out]; exact IsBlk.laid _ _ _
  have hr1 : Wrote g w w1 := Wrote.of_below (Nat.le_of_lt h.lt) hb1
  have Hx := Lib.hid (fun W (hW : Wrote g w1 W) => box6 (hW.2.2 _ _ _ (by decide) (by decide) hk1))
  have hwt1 := h.below hb1
  have Hr1 := Lib.hid hr1
  have HS1 := Lib.hid (fun W (hW : Wrote g w W) => hS1.wrote hbg hW)
  have HS2 := Lib.hid (fun W (hW : Wrote g w W) => hS2.wrote hbg hW)
  have HD1 := Lib.hid hD1
  have HD2 := Lib.hid hD2
  have Hbg := Lib.hid hbg
  obtain ⟨x0, x1, x2, x3, x4, x5, xl⟩ := Hx.out _ (Wrote.refl _ _)
  have Hlen := Lib.hid hlen
  clear hk1 h hlen hb1 hr1 hS1 hS2 hD1 hD2 hbg
  rcases Classical.em (lv = 4) with h4 | h4
  · rw [if_pos h4] at hlf
    have q4 : (lv == 4) = true := by simp [h4]
    subst hlf
    clear h4
    go_enter Tryd.func17, Tryd.ntmps17
    go_upto_region 1 with (fail)
    rw [← Hw1.out]
    go_wp2_with (go_at_call 29; refine (Hsg.out _).mono ?_)
    rintro e' w2 ⟨rfl, hb2⟩
    have hr2 : Wrote g w1 w2 := Wrote.of_below (Nat.le_of_lt hwt1.lt) hb2
    have hwt2 := hwt1.below hb2
    obtain ⟨y0, y1, y2, y3, y4, y5, yl⟩ := Hx.out _ hr2
    obtain ⟨z0, z1, z2, z3, z4, z5⟩ := HS1.out _ (Hr1.out.trans hr2)
    have hbl : b < w2.heap.size := by have := Hbg.out; have := hwt2.lt; omega
    clear x0 x1 x2 x3 x4 x5 xl hwt1 hb2
    go_wp2_with (fail)
    refine (HD1.out _ t br (Hr1.out.trans hr2) hwt2 (by
      have := Hlen.out
      simp only [List.length_append, List.length_cons, List.length_nil] at this
      omega)).mono ?_
    rintro e' w3 ⟨rfl, hwt3, hr3⟩
    have hr3' := hr2.trans hr3
    have Hr3 := Lib.hid hr3'
    obtain ⟨x0, x1, x2, x3, x4, x5, xl⟩ := Hx.out _ hr3'
    clear y0 y1 y2 y3 y4 y5 yl z0 z1 z2 z3 z4 z5 hbl hwt2 hr2 hr3 hr3'
    go_wp2_with (fail)
    refine (put_new g 3 _ _ [⟨#[32]⟩, ⟨sg.toArray⟩, ⟨#[32]⟩] _ hwt3 rfl (by decide) (by
      have := Hlen.out
      simp only [List.length_append, List.length_cons, List.length_nil] at this
      simp only [catL, List.map_cons, List.map_nil, List.flatten_cons, List.flatten_nil, List.length_append, List.length_cons, List.length_nil]
      omega)).mono ?_
    rintro e' w4 ⟨rfl, hwt4, hr4⟩
    have e4 : t ++ T1 ++ catL [⟨#[32]⟩, ⟨sg.toArray⟩, ⟨#[32]⟩] = t ++ (T1 ++ ([32] ++ sg ++ [32])) := by simp [catL]
    rw [e4] at hwt4
    have hr4' := Hr3.out.trans hr4
    have Hr4 := Lib.hid hr4'
    obtain ⟨y0, y1, y2, y3, y4, y5, yl⟩ := Hx.out _ hr4'
    obtain ⟨z0, z1, z2, z3, z4, z5⟩ := HS2.out _ (Hr1.out.trans hr4')
    have hbl : b < w4.heap.size := by have := Hbg.out; have := hwt4.lt; omega
    clear x0 x1 x2 x3 x4 x5 xl hwt3 hr4 hr4' e4
    go_wp2_with (fail)
    refine (HD2.out _ _ _ (Hr1.out.trans Hr4.out) hwt4 (by
      have := Hlen.out
      simp only [List.length_append, List.length_cons, List.length_nil] at this ⊢
      omega)).mono ?_
    rintro e' w5 ⟨rfl, hwt5, hr5⟩
    have e5 : t ++ (T1 ++ ([32] ++ sg ++ [32])) ++ T2 = t ++ (T1 ++ ([32] ++ sg ++ [32]) ++ T2) := by simp
    rw [e5, Bool.or_assoc] at hwt5
    have H5 := Lib.hid (And.intro hwt5 (Hr1.out.trans (Hr4.out.trans hr5)))
    clear hwt5 hr5 e5 y0 y1 y2 y3 y4 y5 yl z0 z1 z2 z3 z4 z5 hbl hwt4
    go_wp2
    go_end0
    exact ⟨rfl, H5.out.1, H5.out.2⟩
  · rw [if_neg h4] at hlf
    have q4 : (lv == 4) = false := by simp [h4]
    subst hlf
    clear h4
    go_enter Tryd.func17, Tryd.ntmps17
    go_upto_region 1 with (fail)
    rw [← Hw1.out]
    go_wp2_with (go_at_call 29; refine (Hsg.out _).mono ?_)
    rintro e' w2 ⟨rfl, hb2⟩
    have hr2 : Wrote g w1 w2 := Wrote.of_below (Nat.le_of_lt hwt1.lt) hb2
    have hwt2 := hwt1.below hb2
    obtain ⟨y0, y1, y2, y3, y4, y5, yl⟩ := Hx.out _ hr2
    obtain ⟨z0, z1, z2, z3, z4, z5⟩ := HS1.out _ (Hr1.out.trans hr2)
    have hbl : b < w2.heap.size := by have := Hbg.out; have := hwt2.lt; omega
    clear x0 x1 x2 x3 x4 x5 xl hwt1 hb2
    go_wp2_with (fail)
    refine (HD1.out _ t br (Hr1.out.trans hr2) hwt2 (by
      have := Hlen.out
      simp only [List.length_append, List.length_cons, List.length_nil] at this
      omega)).mono ?_
    rintro e' w3 ⟨rfl, hwt3, hr3⟩
    have hr3' := hr2.trans hr3
    have Hr3 := Lib.hid hr3'
    obtain ⟨x0, x1, x2, x3, x4, x5, xl⟩ := Hx.out _ hr3'
    clear y0 y1 y2 y3 y4 y5 yl z0 z1 z2 z3 z4 z5 hbl hwt2 hr2 hr3 hr3'
    go_wp2_with (fail)
    refine (put_new g 3 _ _ [⟨#[32]⟩, ⟨sg.toArray⟩, ⟨#[32]⟩] _ hwt3 rfl (by decide) (by
      have := Hlen.out
      simp only [List.length_append, List.length_cons, List.length_nil] at this
      simp only [catL, List.map_cons, List.map_nil, List.flatten_cons, List.flatten_nil, List.length_append, List.length_cons, List.length_nil]
      omega)).mono ?_
    rintro e' w4 ⟨rfl, hwt4, hr4⟩
    have e4 : t ++ T1 ++ catL [⟨#[32]⟩, ⟨sg.toArray⟩, ⟨#[32]⟩] = t ++ (T1 ++ ([32] ++ sg ++ [32])) := by simp [catL]
    rw [e4] at hwt4
    have hr4' := Hr3.out.trans hr4
    have Hr4 := Lib.hid hr4'
    obtain ⟨y0, y1, y2, y3, y4, y5, yl⟩ := Hx.out _ hr4'
    obtain ⟨z0, z1, z2, z3, z4, z5⟩ := HS2.out _ (Hr1.out.trans hr4')
    have hbl : b < w4.heap.size := by have := Hbg.out; have := hwt4.lt; omega
    clear x0 x1 x2 x3 x4 x5 xl hwt3 hr4 hr4' e4
    go_wp2_with (fail)
    refine (HD2.out _ _ _ (Hr1.out.trans Hr4.out) hwt4 (by
      have := Hlen.out
      simp only [List.length_append, List.length_cons, List.length_nil] at this ⊢
      omega)).mono ?_
    rintro e' w5 ⟨rfl, hwt5, hr5⟩
    have e5 : t ++ (T1 ++ ([32] ++ sg ++ [32])) ++ T2 = t ++ (T1 ++ ([32] ++ sg ++ [32]) ++ T2) := by simp
    rw [e5, Bool.or_assoc] at hwt5
    have H5 := Lib.hid (And.intro hwt5 (Hr1.out.trans (Hr4.out.trans hr5)))
    clear hwt5 hr5 e5 y0 y1 y2 y3 y4 y5 yl z0 z1 z2 z3 z4 z5 hbl hwt4
    go_wp2
    go_end0
    exact ⟨rfl, H5.out.1, H5.out.2⟩
end Go.Proofs.YthiimingnmbgmaaDoor
