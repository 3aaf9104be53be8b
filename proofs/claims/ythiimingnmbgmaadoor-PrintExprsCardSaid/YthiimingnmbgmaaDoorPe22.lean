/- Parts of this proof, one behind the other: RefO, RefW. -/
import Derived.Test.YthiimingnmbgmaaDoorPe21
import Derived.Test.YthiimingnmbgmaaDoorPe20
import Derived.Outline
namespace Go.Proofs.YthiimingnmbgmaaDoor
open Go.RowKit Go.Afx

theorem SWood.end_ {F : Nat → Prop} {w wr W : World} {hue : Nat → Nat} {es : List Ex} {ss : List St} {A0 A1 A2 A3 A4 A5 : Option Addr} {c0 c1 c2 c3 c4 c5 : Nat} (h : SWood F w wr hue es ss A0 c0 A1 c1 A2 c2 A3 c3 A4 c4 A5 c5) (hb : But (fun b => b = w.heap.size) wr W) :
    TreeAt (fun b => b < W.heap.size ∧ (b < w.heap.size → F b)) W [.slice A0 es.length c0, .slice A1 es.length c1, .slice A2 es.length c2, .slice A3 ss.length c3, .slice A4 ss.length c4, .slice A5 ss.length c5] es ss ∧ Below w.heap.size w W := by
  have hz := hb.size
  have hk : Kept (fun b => hue b ≠ 9 ∧ hue b ≠ 8) wr W := Kept.of_but hb (fun b h0 e => h0.1 (by rw [e]; exact h.hr))
  have h0 : ∀ b, b < wr.heap.size → Hu hue 0 b → (hue b ≠ 9 ∧ hue b ≠ 8) := fun b _ hb0 => by
    have e : hue b = 0 := hb0
    rw [e]; omega
  have h1 : ∀ b, b < wr.heap.size → (hue b ≠ 9 ∧ hue b ≠ 8) → (b < W.heap.size ∧ (b < w.heap.size → F b)) := fun b hb0 hn => ⟨Nat.lt_of_lt_of_le hb0 hz, fun hw => by
    rcases Classical.em (F b) with hf | hf
    · exact hf
    · exact absurd ((h.old b hw).2 hf) hn.2⟩
  obtain ⟨k1, k2, k3⟩ := h.tri.lists (F := fun b => hue b ≠ 9 ∧ hue b ≠ 8) (Q := StAt (fun b => hue b ≠ 9 ∧ hue b ≠ 8) 101 wr) (fun b _ hb0 => by show hue b ≠ 9 ∧ hue b ≠ 8; omega) (fun k r x hk0 hp => by
    have := h.fews
    exact StAt.turn h0 (Kept.refl _ _) (50 + k + 1) (by omega) hp) (fun x => tok_okI (tellS_ok x))
  have e1 := ExsAt.turn h1 hk (Nat.le_refl _) (ExsAt.turn h0 (Kept.refl _ _) (Nat.le_refl _) h.exs)
  have lst : ∀ {A : Option Addr} {n c : Nat} {xs : List Int}, LsAt (fun b => hue b ≠ 9 ∧ hue b ≠ 8) wr 1 IRow A n c xs → LsAt (fun b => b < W.heap.size ∧ (b < w.heap.size → F b)) W 1 IRow A n c xs := fun hl => hl.conv hk (fun a ha hn hf => h1 _ (hl.lt hn a ha) hf) (fun _ _ _ h => h)
  have num : ∀ {A : Option Addr} {n c : Nat} {xs : List Int}, LsAt (Hu hue 0) wr 1 IRow A n c xs → LsAt (fun b => hue b ≠ 9 ∧ hue b ≠ 8) wr 1 IRow A n c xs := fun hl => hl.conv (Kept.refl _ _) (fun a ha hn hf => h0 _ (hl.lt hn a ha) hf) (fun _ _ _ h => h)
  exact ⟨⟨A0, c0, A1, c1, A2, c2, A3, c3, A4, c4, A5, c5, rfl, e1, lst (num h.nod), lst (num h.dep), StsAt.turn h1 hk (Nat.le_refl _) k1, lst k2, lst k3, h.few, h.fews⟩, h.low.trans (hb.below' h.low.size fun b e => Nat.le_of_eq e.symm)⟩
theorem but_six (W : World) (g : Nat) (v0 v1 v2 v3 v4 v5 : Value) : But (fun b => b = g) W ((((((W.setCell ⟨g, 0, none⟩ v0).setCell ⟨g, 1, none⟩ v1).setCell ⟨g, 2, none⟩ v2).setCell ⟨g, 3, none⟩ v3).setCell ⟨g, 4, none⟩ v4).setCell ⟨g, 5, none⟩ v5) :=
  ((((((But.refl (fun b => b = g) W).setCell (p := ⟨g, 0, none⟩) (.inl rfl) _).setCell (p := ⟨g, 1, none⟩) (.inl rfl) _).setCell (p := ⟨g, 2, none⟩) (.inl rfl) _).setCell (p := ⟨g, 3, none⟩) (.inl rfl) _).setCell (p := ⟨g, 4, none⟩) (.inl rfl) _).setCell (p := ⟨g, 5, none⟩) (.inl rfl) _
end Go.Proofs.YthiimingnmbgmaaDoor

namespace Go.Proofs.YthiimingnmbgmaaDoor
open Go.RowKit Go.Afx

def SomeB (w : World) (e : Ending) (w' : World) : Prop := ∃ b : Bool, e = .returned (.bool b) ∧ w = w'
set_option maxRecDepth 100000 in
set_option maxHeartbeats 2000000 in
theorem great_any (F : Nat → Prop) (A A' : Option Addr) (n c n' c' : Nat) (xs : List Lf) (ys : List Kn) (w : World) (h1 : LsAt F w 6 (LfAt F w) A n c xs) (h2 : LsAt F w 8 (KnAt F w) A' n' c' ys) :
    Calls Tryd.prog 4 #[.slice A n c, .slice A' n' c'] w (SomeB w) := by
  have hn := h1.n_le
  have hn' := h2.n_le
  by_cases hbig : 50 < n ∨ 50 < n'
  · clear h1 h2
    rcases hbig with hbig | hbig
    all_goals
      go_enter Tryd.func4, Tryd.ntmps4
      go_wp2
      all_goals
        first
        | (go_ret; exact ⟨_, rfl, rfl⟩)
        | skip
  · have hn50 : n ≤ 50 := by omega
    have hn50' : n' ≤ 50 := by omega
    have hi1 : ¬ (50 : Int) < (n : Int) := by omega
    have hi2 : ¬ (50 : Int) < (n' : Int) := by omega
    clear hbig
    go_enter Tryd.func4, Tryd.ntmps4
    go_wp2
    go_loop [5] (fun i => ∃ k : Nat, k ≤ n ∧ i = .int .i64 k) (fun i => n - (intOf i).toNat)
    case atStart => exact ⟨0, Nat.zero_le _, rfl⟩
    case round =>
      obtain ⟨k, hk, rfl⟩ := hrel
      by_cases hlt : k < n
      · obtain ⟨b, o, r, x, rfl, hbl, _, hx, hrl, hp, hc⟩ := h1.get hlt
        obtain ⟨o1, o2, o3, o4, o5, A5, m5, c5, rfl, _⟩ := hp
        have hc2 := hc 2 _ rfl; have hc3 := hc 3 _ rfl; have hc4 := hc 4 _ rfl
        clear hc hx
        unfold okS at o3 o4 o5
        go_wp2
        all_goals
          first
          | (go_ret; exact ⟨_, rfl, rfl⟩)
          | (go_round
             case rel => exact ⟨k + 1, by omega, by go_num⟩
             case measure => simp [intOf]; omega)
      · go_wp2
        go_loop [6] (fun i => ∃ k : Nat, k ≤ n' ∧ i = .int .i64 k) (fun i => n' - (intOf i).toNat)
        case atStart => exact ⟨0, Nat.zero_le _, rfl⟩
        case round =>
          obtain ⟨k2, hk2, rfl⟩ := hrel
          by_cases hlt2 : k2 < n'
          · obtain ⟨b, o, r, x, rfl, hbl, _, hx, hrl, hp, hc⟩ := h2.get hlt2
            obtain ⟨o1, o2, o3, o4, Ac, nc, cc, Ax, nx, cx, Ab, nb, cb, Al, nl, cl, rfl, hcol, _⟩ := hp
            have hc1 := hc 1 _ rfl; have hc2 := hc 2 _ rfl; have hc4 := hc 4 _ rfl
            have hnc := hcol.n_le
            clear hc hx
            unfold okS at o3 o4
            by_cases hq : 12 < nc
            · have hq' : (12 : Int) < (nc : Int) := by omega
              go_wp2
              all_goals
                first
                | (go_ret; exact ⟨_, rfl, rfl⟩)
                | skip
            · have hq' : ¬ (12 : Int) < (nc : Int) := by omega
              have hnc12 : nc ≤ 12 := by omega
              go_wp2
              all_goals
                first
                | (go_ret; exact ⟨_, rfl, rfl⟩)
                | (go_loop [7] (fun i => ∃ k : Nat, k ≤ nc ∧ i = .int .i64 k) (fun i => nc - (intOf i).toNat)
                   case atStart => exact ⟨0, Nat.zero_le _, rfl⟩
                   case round =>
                     obtain ⟨k3, hk3, rfl⟩ := hrel
                     by_cases hlt3 : k3 < nc
                     · obtain ⟨b3, o3, r3, x3, rfl, hbl3, _, hx3, hrl3, hp3, hcc3⟩ := hcol.get hlt3
                       obtain ⟨rfl, ok3⟩ := hp3
                       have hcc := hcc3 0 _ rfl
                       rw [Nat.mul_one, Nat.add_zero] at hcc
                       unfold okS at ok3
                       go_wp2
                       all_goals
                         first
                         | (go_ret; exact ⟨_, rfl, rfl⟩)
                         | (go_round
                            case rel => exact ⟨k3 + 1, by omega, by go_num⟩
                            case measure => simp [intOf]; omega)
                     · go_wp2
                       go_round
                       case rel => exact ⟨k2 + 1, by omega, by go_num⟩
                       case measure => simp [intOf]; omega)
          · go_wp2
            go_ret
            exact ⟨_, rfl, rfl⟩
end Go.Proofs.YthiimingnmbgmaaDoor
