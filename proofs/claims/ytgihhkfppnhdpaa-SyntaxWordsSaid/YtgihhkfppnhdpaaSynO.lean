/- Syntax, part O: what an expression uses. -/
import Derived.Test.YtgihhkfppnhdpaaSynN
import Derived.Maps.Own
import Derived.Maps.Views
namespace Go.Proofs.Ytgihhkfppnhdpaa
open Go.RowKit Go.Afx Go.Maps Go.WideMaps

def litS (s : ByteArray) : Lit := .string s.data.toList
/-- block b is a set of these names -/
def UseAt (w : World) (b : Nat) (L : List ByteArray) : Prop := w.ownsMap Try.prog 9 (plainElem (H := Unit) Try.prog 4) b L.length (setOf (.lit (.bool true)) (L.map litS))
section
variable {w w' : World} {b : Nat} {L : List ByteArray}
theorem UseAt.lt (h : UseAt w b L) : b < w.heap.size := World.ownsMap.lt h
theorem UseAt.as_was (h : UseAt w b L) (e : w'.heap[b]? = w.heap[b]?) : UseAt w' b L := by
  obtain ⟨es, clock, hb, rest⟩ := h
  exact ⟨es, clock, e.trans hb, rest⟩
theorem UseAt.but {S : Nat → Prop} (h : UseAt w b L) (hb : But S w w') (hn : ¬ S b) : UseAt w' b L := h.as_was (hb.block b h.lt hn)
theorem UseAt.below (h : UseAt w b L) (hb : Below w.heap.size w w') : UseAt w' b L := h.as_was (hb.block b h.lt)
theorem UseAt.made (w : World) : UseAt (w.alloc (.map #[] 0)) w.heap.size [] := World.ownsMap_made w _ _ _
end
theorem strKeyed : Keyed Try.prog 9 := string_keyed Try.underlying9
theorem setOf_put (L : List ByteArray) (s : ByteArray) : (setOf (.lit (.bool true)) (L.map litS) : DataW Unit).put (litS s) (.lit (.bool true)) = setOf (.lit (.bool true)) ((L ++ [s]).map litS) := by
  rw [List.map_append, List.map_singleton, setOf_snoc]
theorem UseAt.put {w' : World} {b : Nat} {L : List ByteArray} {s : ByteArray} (h : w'.ownsMap Try.prog 9 (plainElem (H := Unit) Try.prog 4) b (L.length + 1) ((setOf (.lit (.bool true)) (L.map litS) : DataW Unit).put (litS s) (.lit (.bool true)))) : UseAt w' b (L ++ [s]) := by
  rw [setOf_put] at h
  unfold UseAt
  rw [List.length_append]
  exact h
theorem keyS {s : ByteArray} (h : okS s) : keyOf Try.prog 9 (.string s) = some (litS s) := keyOf_string_mk Try.underlying9 (by unfold okS at h; unfold maxLen; omega)

theorem exBox {w : World} {g : Nat} {T : TypeId} {op n : Int} {s name src : ByteArray} {A : Option Addr} {m c : Nat} (h : IsBlk w g T #[.int .i64 op, .int .i64 n, .string s, .string name, .string src, .slice A m c]) :
    w.cell? ⟨g, 0, none⟩ = some (.int .i64 op) ∧ w.cell? ⟨g, 1, none⟩ = some (.int .i64 n) ∧ w.cell? ⟨g, 2, none⟩ = some (.string s) ∧ w.cell? ⟨g, 3, none⟩ = some (.string name) ∧ w.cell? ⟨g, 4, none⟩ = some (.string src) ∧ w.cell? ⟨g, 5, none⟩ = some (.slice A m c) ∧ g < w.heap.size := by
  have h0 := h.cell 0; have h1 := h.cell 1; have h2 := h.cell 2; have h3 := h.cell 3; have h4 := h.cell 4; have h5 := h.cell 5
  simp at h0 h1 h2 h3 h4 h5
  exact ⟨h0, h1, h2, h3, h4, h5, h.lt⟩
theorem usBox {w : World} {g : Nat} {T : TypeId} {b1 b2 b3 : Nat} (h : IsBlk w g T #[.map (some b1), .map (some b2), .map (some b3)]) :
    w.cell? ⟨g, 0, none⟩ = some (.map (some b1)) ∧ w.cell? ⟨g, 1, none⟩ = some (.map (some b2)) ∧ w.cell? ⟨g, 2, none⟩ = some (.map (some b3)) ∧ g < w.heap.size := by
  have h0 := h.cell 0; have h1 := h.cell 1; have h2 := h.cell 2
  simp at h0 h1 h2
  exact ⟨h0, h1, h2, h.lt⟩

def UsesE (F : Nat → Prop) (d : Nat) : Prop := ∀ (e : Ex) (row : List Value) (w : World) (b1 b2 b3 : Nat) (L : List ByteArray), ExAt F d w row e → UseAt w b1 L → (∀ k, F k → k ≠ b1) → L.length + (srcsE d e).length ≤ 1000000 →
  Calls Try.prog 66 #[.agg #[.map (some b1), .map (some b2), .map (some b3)], .agg row.toArray] w fun x w' => x = .returned (.tuple #[]) ∧ UseAt w' b1 (L ++ srcsE d e) ∧ But (fun k => k = b1) w w'

theorem flat_take {α β : Type} {l : List α} {k : Nat} {x : α} {f : α → List β} (h : l[k]? = some x) : (l.take (k + 1)).flatMap f = (l.take k).flatMap f ++ f x := by
  obtain ⟨hk, rfl⟩ := List.getElem?_eq_some_iff.1 h
  rw [List.take_succ_eq_append_getElem hk, List.flatMap_append]
  simp
theorem flat_le {α β : Type} {l : List α} {k : Nat} {x : α} {f : α → List β} (h : l[k]? = some x) : ((l.take k).flatMap f).length + (f x).length ≤ (l.flatMap f).length := by
  rw [← List.length_append, ← flat_take h]
  have : l.flatMap f = (l.take (k + 1)).flatMap f ++ (l.drop (k + 1)).flatMap f := by rw [← List.flatMap_append, List.take_append_drop]
  rw [this, List.length_append]; omega

set_option maxRecDepth 100000 in
set_option maxHeartbeats 2000000 in
theorem usesE_any (F : Nat → Prop) (d : Nat) : UsesE F d := by
  induction d with
  | zero => intro e row w b1 b2 b3 L h; exact h.elim
  | succ d ih =>
    intro e row w b1 b2 b3 L h hu hF hbig
    obtain ⟨ho, hn, hs, hnm, hsr, A, m, c, rfl, hl⟩ := h.open_
    have hml := LsAt.n_le hl
    have Hlen := Lib.hid (LsAt.len hl)
    have hlt1 := hu.lt
    obtain ⟨w2, Hw2⟩ : ∃ w2, Hid (w2 = (w.alloc (.cells #[.map (some b1), .map (some b2), .map (some b3)] 73)).alloc (.cells #[.int .i64 e.op, .int .i64 e.n, .string e.s, .string e.name, .string e.src, .slice A m c] 50)) := ⟨_, rfl⟩
    have hb2 : Below w.heap.size w w2 := by rw [Hw2.out]; exact ((Below.refl _ _).alloc (Nat.le_refl _) _).alloc (by simp) _
    have hu2 : IsBlk w2 w.heap.size 73 #[.map (some b1), .map (some b2), .map (some b3)] := by rw [Hw2.out]; exact (IsBlk.laid _ _ _).alloc _
    have he2 : IsBlk w2 (w.heap.size + 1) 50 #[.int .i64 e.op, .int .i64 e.n, .string e.s, .string e.name, .string e.src, .slice A m c] := by rw [Hw2.out]; exact laid_at (by simp) _ _
    have hU2 := hu.below hb2
    have Ha := Lib.hid (fun W => args_any e.op W)
    have Hfin : Hid (srcsE (d + 1) e = (if rowsB e.op then [e.src] else []) ++ e.args.flatMap (srcsE d)) := Lib.hid rfl
    obtain ⟨own, Hown⟩ : ∃ l, Hid ((if rowsB e.op then [e.src] else []) = l) := ⟨_, rfl⟩
    rw [Hfin.out, Hown.out] at hbig ⊢
    have hbig2 : L.length + own.length + (e.args.flatMap (srcsE d)).length ≤ 1000000 := by rw [List.length_append] at hbig; omega
    clear hbig
    -- behind the first statement
    have Hx2 := Lib.hid (fun W (hW : But (fun k => k = b1) w2 W) => And.intro (usBox (hu2.as_was (hW.block _ hu2.lt (by omega)))) (exBox (he2.as_was (hW.block _ he2.lt (by omega)))))
    have Hl := Lib.hid (fun W (hW : But (fun k => k = b1) w2 W) => ExsAt.kept hl (Kept.of_but ((But.of_below (S := fun k => k = b1) hb2).trans' hW) (fun k hk => hF k hk)))
    obtain ⟨⟨y0, y1, y2, yl⟩, x0, x1, x2, x3, x4, x5, xl⟩ := Hx2.out w2 (But.refl _ _)
    clear hu2 he2
    have hb02 : But (fun k => k = b1) w w2 := But.of_below hb2
    cases hr : rowsB e.op
    · have hown : own = [] := by rw [← Hown.out, hr]; rfl
      rw [hr] at Ha
      have hU : UseAt w2 b1 (L ++ own) := by rw [hown, List.append_nil]; exact hU2
      have hB : But (fun k => k = b1) w2 w2 := But.refl _ _
      clear hr Hown hown
      go_enter Try.func66, Try.ntmps66
      go_upto_region 1 with (fail)
      rw [← Hw2.out]
      go_wp2_with (go_at_call 86; refine (Ha.out _).mono ?_; rintro x w' ⟨rfl, rfl⟩)
      go_loopw [22] (fun i wr => ∃ k : Nat, k ≤ m ∧ i = .int .i64 k ∧ UseAt wr b1 (L ++ own ++ (e.args.take k).flatMap (srcsE d)) ∧ But (fun k => k = b1) w2 wr) (fun i _ => m - (intOf i).toNat)
      case atStart => exact ⟨0, Nat.zero_le _, rfl, by simpa using hU, hB⟩
      case round =>
        obtain ⟨k, hk, rfl, hU4, hB4⟩ := hrel
        obtain ⟨⟨z0, z1, z2, zl⟩, v0, v1, v2, v3, v4, v5, vl⟩ := Hx2.out wr hB4
        by_cases hlt : k < m
        · cases d with
          | zero =>
            obtain ⟨b, o, r, e, hA, hbl, _, he, hl, hp, hc⟩ := LsAt.get (Hl.out wr hB4) hlt
            exact hp.elim
          | succ d =>
            obtain ⟨b, o, x, A2, m2, c2, rfl, hbl, hx, hc0, hc1, hc2, hc3, hc4, hc5, hp, _⟩ := ExsAt.get (Hl.out wr hB4) hlt
            have Hx := Lib.hid hx
            clear hx
            have hbn : Below wr.heap.size wr (wr.alloc (.cells #[.int .i64 x.op, .int .i64 x.n, .string x.s, .string x.name, .string x.src, .slice A2 m2 c2] 50)) := (Below.refl _ _).alloc (Nat.le_refl _) _
            have Hc := Lib.hid (ih x _ _ b1 b2 b3 _ (hp.below hbn) (hU4.below hbn) hF (by have := flat_le (f := srcsE (d + 1)) Hx.out; simp only [List.length_append]; omega))
            go_wp2_with (go_at_call 66; refine Hc.out.mono ?_; rintro y w5 ⟨rfl, hU5, hB5⟩)
            go_roundw
            case rel => exact ⟨k + 1, by omega, by go_num, by rw [flat_take Hx.out, ← List.append_assoc]; exact hU5, (hB4.then_below hbn).trans' hB5⟩
            case measure => simp [intOf]; omega
        · go_wp2
          go_end0
          refine ⟨rfl, ?_, hb02.trans' hB4⟩
          rw [List.take_of_length_le (by rw [Hlen.out]; omega)] at hU4
          rw [← List.append_assoc]
          exact hU4
    · have hown : own = [e.src] := by rw [← Hown.out, hr]; rfl
      rw [hr] at Ha
      have Ho := Lib.hid hown
      clear hr Hown hown
      go_enter Try.func66, Try.ntmps66
      go_upto_region 1 with (fail)
      rw [← Hw2.out]
      go_wp2_with (first | (go_at_call 86; refine (Ha.out _).mono ?_; rintro x w' ⟨rfl, rfl⟩) | (at_mapUpdate; refine wpList_mapUpdate_own _ rfl _ _ _ 71 rfl 9 4 strKeyed Try.underlying71 _ b1 L.length _ rfl hU2 (by unfold maxLen; omega) _ _ _ rfl rfl (keyS hsr) _ [] (plainElem_bool Try.underlying4 true) ?_; intro w3 hU3 hgrow3; have hB : But (fun k => k = b1) w2 w3 := But.grown (But.refl _ _) hgrow3 (fun k hk => by cases hk; exact .inl rfl); obtain ⟨⟨a0, a1, a2, al⟩, c0, c1, c2, c3, c4, c5, cl⟩ := Hx2.out w3 hB))
      have hU : UseAt w3 b1 (L ++ own) := by rw [Ho.out]; exact UseAt.put hU3
      go_loopw [22] (fun i wr => ∃ k : Nat, k ≤ m ∧ i = .int .i64 k ∧ UseAt wr b1 (L ++ own ++ (e.args.take k).flatMap (srcsE d)) ∧ But (fun k => k = b1) w2 wr) (fun i _ => m - (intOf i).toNat)
      case atStart => exact ⟨0, Nat.zero_le _, rfl, by simpa using hU, hB⟩
      case round =>
        obtain ⟨k, hk, rfl, hU4, hB4⟩ := hrel
        obtain ⟨⟨z0, z1, z2, zl⟩, v0, v1, v2, v3, v4, v5, vl⟩ := Hx2.out wr hB4
        by_cases hlt : k < m
        · cases d with
          | zero =>
            obtain ⟨b, o, r, e, hA, hbl, _, he, hl, hp, hc⟩ := LsAt.get (Hl.out wr hB4) hlt
            exact hp.elim
          | succ d =>
            obtain ⟨b, o, x, A2, m2, c2, rfl, hbl, hx, hc0, hc1, hc2, hc3, hc4, hc5, hp, _⟩ := ExsAt.get (Hl.out wr hB4) hlt
            have Hx := Lib.hid hx
            clear hx
            have hbn : Below wr.heap.size wr (wr.alloc (.cells #[.int .i64 x.op, .int .i64 x.n, .string x.s, .string x.name, .string x.src, .slice A2 m2 c2] 50)) := (Below.refl _ _).alloc (Nat.le_refl _) _
            have Hc := Lib.hid (ih x _ _ b1 b2 b3 _ (hp.below hbn) (hU4.below hbn) hF (by have := flat_le (f := srcsE (d + 1)) Hx.out; simp only [List.length_append]; omega))
            go_wp2_with (go_at_call 66; refine Hc.out.mono ?_; rintro y w5 ⟨rfl, hU5, hB5⟩)
            go_roundw
            case rel => exact ⟨k + 1, by omega, by go_num, by rw [flat_take Hx.out, ← List.append_assoc]; exact hU5, (hB4.then_below hbn).trans' hB5⟩
            case measure => simp [intOf]; omega
        · go_wp2
          go_end0
          refine ⟨rfl, ?_, hb02.trans' hB4⟩
          rw [List.take_of_length_le (by rw [Hlen.out]; omega)] at hU4
          rw [← List.append_assoc]
          exact hU4
end Go.Proofs.Ytgihhkfppnhdpaa
