/- Lock, part T: the statement's own list of asks; its find. -/
import Derived.Test.YtinpihplkikldaaLockS
namespace Go.Proofs.Ytinpihplkikldaa
open Go.RowKit Go.Afx

/-- 'the statement's list is L' -/
structure LisAt (w : World) (base : Nat) (A : Option Addr) (n c : Nat) (L : List AskD) (rows : List (List Value)) : Prop where
  own : w.ownsRow base 107 3 (.slice A n c) n rows.flatten
  lenL : L.length = n
  lenR : rows.length = n
  at_ : ∀ (k : Nat) (a : AskD), L[k]? = some a → ∃ Ak nk ck, rows[k]? = some [.int .i64 a.id, .slice Ak nk ck, .bool a.held] ∧ WAt w Ak nk ck a.ws ∧ (∀ ad, Ak = some ad → 0 < nk → ∃ cs, IsBlk w ad.block 31 cs)

section
variable {w w' : World} {base n c : Nat} {A : Option Addr} {L : List AskD} {rows : List (List Value)}

theorem LisAt.nil_ (w : World) (base : Nat) : LisAt w base none 0 0 [] [] := ⟨World.ownsRow_nil _ _ _ _, rfl, rfl, fun k a h => by simp at h⟩

theorem LisAt.rowLen (h : LisAt w base A n c L rows) : ∀ r ∈ rows, r.length = 3 := by
  intro r hr
  obtain ⟨k, hk, rfl⟩ := List.mem_iff_getElem.1 hr
  obtain ⟨Ak, nk, ck, e, _⟩ := h.at_ k _ (List.getElem?_eq_getElem (by have := h.lenL; have := h.lenR; omega))
  rw [List.getElem?_eq_getElem hk] at e
  injection e with e
  rw [e]; rfl

theorem LisAt.get (h : LisAt w base A n c L rows) {k : Nat} (hk : k < n) :
    ∃ g Ak ck a, A = some ⟨g, 0, none⟩ ∧ base ≤ g ∧ g < w.heap.size ∧ L[k]? = some a ∧ w.cell? ⟨g, k * 3, none⟩ = some (.int .i64 a.id) ∧ w.cell? ⟨g, k * 3 + 1, none⟩ = some (.slice Ak a.ws.length ck) ∧ w.cell? ⟨g, k * 3 + 2, none⟩ = some (.bool a.held) ∧
      WAt w Ak a.ws.length ck a.ws ∧ (∀ j, w.frozen? ⟨g, j, none⟩ = false) ∧ rows[k]? = some [.int .i64 a.id, .slice Ak a.ws.length ck, .bool a.held] := by
  obtain ⟨g, cap, hA, hb, hg⟩ := h.own.form (by omega)
  simp only [Value.slice.injEq] at hA
  obtain ⟨rfl, _, rfl⟩ := hA
  obtain ⟨a, e⟩ : ∃ a, L[k]? = some a := ⟨_, List.getElem?_eq_getElem (by have := h.lenL; omega)⟩
  obtain ⟨Ak, nk, ck, hr, hw, hap⟩ := h.at_ k _ e
  have hnk : a.ws.length = nk := by have := hw.len; simpa using this
  subst hnk
  have hf : ∀ j, j < 3 → rows.flatten[k * 3 + j]? = [Value.int .i64 a.id, .slice Ak a.ws.length ck, .bool a.held][j]? := fun j hj => by
    rw [flatten_get rows 3 h.rowLen k j hj, hr]; rfl
  refine ⟨g, Ak, ck, a, rfl, hb, hg, e, ?_, ?_, ?_, hw, h.own.frozenAt, hr⟩
  · exact (h.own.cellAt (k * 3) (by omega)).trans (hf 0 (by omega))
  · exact (h.own.cellAt (k * 3 + 1) (by omega)).trans (hf 1 (by omega))
  · exact (h.own.cellAt (k * 3 + 2) (by omega)).trans (hf 2 (by omega))

theorem LisAt.n_le (h : LisAt w base A n c L rows) : n ≤ 9223372036854775807 := by
  rcases h.own.2 with ⟨hv, h0⟩ | ⟨g, cap, cur, hv, hb, hg, hnc, hcm, _⟩
  · omega
  · unfold maxLen at hcm; omega

theorem LisAt.but (h : LisAt w base A n c L rows) {S : Nat → Prop} (hb : But S w w') (hA : ∀ a, A = some a → ¬ S a.block)
    (hW : ∀ (k : Nat) (a : AskD) (Ak : Option Addr) (nk ck : Nat) (ad : Addr), L[k]? = some a → rows[k]? = some [.int .i64 a.id, .slice Ak nk ck, .bool a.held] → Ak = some ad → 0 < nk → ¬ S ad.block) : LisAt w' base A n c L rows where
  own := own_but h.own hb (fun g hg => by
    cases A with
    | none => simp [Value.ownBlock] at hg
    | some a => simp [Value.ownBlock] at hg; subst hg; exact hA a rfl)
  lenL := h.lenL
  lenR := h.lenR
  at_ := fun k a hk => by
    obtain ⟨Ak, nk, ck, hr, hw, hap⟩ := h.at_ k a hk
    exact ⟨Ak, nk, ck, hr, RowsAt.but hw hb (fun ad h1 h2 => hW k a Ak nk ck ad hk hr h1 h2), fun ad h1 h2 => by
      obtain ⟨cs, hc⟩ := hap ad h1 h2
      exact ⟨cs, hc.as_was (hb.block _ hc.lt (hW k a Ak nk ck ad hk hr h1 h2))⟩⟩
theorem LisAt.below (h : LisAt w base A n c L rows) (hb : Below w.heap.size w w') : LisAt w' base A n c L rows :=
  h.but (S := fun _ => False) (But.of_below hb) (fun _ _ hf => hf) (fun _ _ _ _ _ _ _ _ _ _ hf => hf)
end

theorem find_ref (base : Nat) (A : Option Addr) (n c : Nat) (L : List AskD) (rows) (id : Int) (w : World) (hL : LisAt w base A n c L rows) :
    Calls Try.prog 63 #[.slice A n c, .int .i64 id] w fun e w' => e = .returned (.int .i64 (findT L id)) ∧ ∃ k, w' = w.drewN k := by
  have hn := hL.n_le
  have Ll := Lib.hid hL.lenL
  go_enter Try.func63, Try.ntmps63
  go_wp2
  go_loopw [5] (fun i wr => ∃ x : Nat, x ≤ n ∧ i = .int .i64 x ∧ (∀ a ∈ L.take x, (a.id == id) = false) ∧ ∃ m, wr = w.drewN m) (fun i _ => n - (intOf i).toNat)
  case atStart => exact ⟨0, Nat.zero_le _, rfl, by simp, 0, rfl⟩
  case round =>
    obtain ⟨x, hx, rfl, hno, m, rfl⟩ := hrel
    have Hno := Lib.hid hno; clear hno
    by_cases hlt : x < n
    · obtain ⟨g, Ak, ck, a, rfl, hbg, hgl, hLk, hc0, hc1, hc2, hwk, hfz, hrow⟩ := hL.get hlt
      have HLk := Lib.hid hLk; clear hLk hrow
      by_cases he : (a.id == id) = true
      · have Hf : Hid (findT L id = x) := Lib.hid (findT_yes HLk.out he Hno.out)
        go_wp2
        go_ret
        exact ⟨by rw [Hf.out]; rfl, _, rfl⟩
      · have he : (a.id == id) = false := by simpa using he
        go_wp2
        go_roundw
        case rel =>
          refine ⟨x + 1, by omega, by go_num, ?_, _, rfl⟩
          intro b hb
          rw [take_succ_of HLk.out, List.mem_append] at hb
          rcases hb with hb | hb
          · exact Hno.out b hb
          · rw [List.mem_singleton.1 hb]; exact he
        case measure => simp [intOf]; omega
    · go_wp2
      go_ret
      have h1 := Hno.out
      rw [List.take_of_length_le (by rw [Ll.out]; omega)] at h1
      have h2 := findT_pre L [] id h1
      rw [List.append_nil] at h2
      exact ⟨by rw [h2]; rfl, _, rfl⟩
end Go.Proofs.Ytinpihplkikldaa
