/- Lock, part H: the table; find; clash of sorted lists. -/
import Derived.Test.YtinpihplkikldaaLockF
namespace Go.Proofs.Ytinpihplkikldaa
open Go.RowKit Go.Afx

theorem own_blk {w : World} {base : Nat} {e : TypeId} {sz : Nat} {a : Addr} {n c : Nat} {xs : List Value} (h : w.ownsRow base e sz (.slice (some a) n c) n xs) : ∃ cs, IsBlk w a.block e cs := by
  rcases h.2 with ⟨hv, h0⟩ | ⟨g, cap, cur, hv, hb, hg, hnc, hcm, _⟩
  · cases hv
  · injection hv with h1 h2 h3
    injection h1 with h1
    subst h1
    exact ⟨cur, hg⟩

theorem blk_ne {w : World} {g g' : Nat} {t t' : TypeId} {cs cs' : Array Value} (h : IsBlk w g t cs) (h' : IsBlk w g' t' cs') (ht : t ≠ t') : g ≠ g' := by
  rintro rfl
  have := h.symm.trans h'
  injection this with this
  injection this with _ h2 _
  exact ht h2

/-- an ask, as data -/
structure AskD where
  ws : List Wt
  id : Int
  held : Bool

/-- 'the table at block p is T': its asks in a row of its own -/
structure TblAt (w : World) (base p : Nat) (A : Option Addr) (n c : Nat) (T : List AskD) (rows : List (List Value)) : Prop where
  blk : IsBlk w p 104 #[.slice A n c]
  hp : base ≤ p
  own : w.ownsRow base 113 3 (.slice A n c) n rows.flatten
  lenT : T.length = n
  lenR : rows.length = n
  apart : ∀ a, A = some a → a.block ≠ p
  at_ : ∀ (k : Nat) (a : AskD), T[k]? = some a → ∃ Ak nk ck, rows[k]? = some [.slice Ak nk ck, .int .i64 a.id, .bool a.held] ∧ WAt w Ak nk ck a.ws ∧ a.ws.Pairwise (fun p q => ltW p q = true) ∧ a.ws.length ≤ 1000 ∧ (∀ ad, Ak = some ad → 0 < nk → ∃ cs, IsBlk w ad.block 31 cs)

def foot (p : Nat) (A : Option Addr) : Nat → Prop := fun k => k = p ∨ A.map (·.block) = some k

section
variable {w w' : World} {base p n c : Nat} {A : Option Addr} {T : List AskD} {rows : List (List Value)}

theorem TblAt.off (h : TblAt w base p A n c T rows) {g : Nat} {cs : Array Value} (hc : IsBlk w g 31 cs) : g ≠ p ∧ A.map (·.block) ≠ some g := by
  refine ⟨blk_ne hc h.blk (by decide), fun e => ?_⟩
  cases A with
  | none => cases e
  | some a =>
    obtain ⟨cs2, h2⟩ := own_blk h.own
    simp at e
    exact blk_ne h2 hc (by decide) e
theorem TblAt.rowLen (h : TblAt w base p A n c T rows) : ∀ r ∈ rows, r.length = 3 := by
  intro r hr
  obtain ⟨k, hk, rfl⟩ := List.mem_iff_getElem.1 hr
  obtain ⟨Ak, nk, ck, e, _⟩ := h.at_ k _ (List.getElem?_eq_getElem (by have := h.lenT; have := h.lenR; omega))
  rw [List.getElem?_eq_getElem hk] at e
  injection e with e
  rw [e]; rfl

theorem TblAt.get (h : TblAt w base p A n c T rows) {k : Nat} (hk : k < n) :
    ∃ g Ak ck a, A = some ⟨g, 0, none⟩ ∧ base ≤ g ∧ g < w.heap.size ∧ g ≠ p ∧ T[k]? = some a ∧ w.cell? ⟨g, k * 3, none⟩ = some (.slice Ak a.ws.length ck) ∧ w.cell? ⟨g, k * 3 + 1, none⟩ = some (.int .i64 a.id) ∧ w.cell? ⟨g, k * 3 + 2, none⟩ = some (.bool a.held) ∧
      WAt w Ak a.ws.length ck a.ws ∧ a.ws.Pairwise (fun p q => ltW p q = true) ∧ a.ws.length ≤ 1000 ∧ (∀ j, w.frozen? ⟨g, j, none⟩ = false) ∧ rows[k]? = some [.slice Ak a.ws.length ck, .int .i64 a.id, .bool a.held] ∧ (∀ ad, Ak = some ad → 0 < a.ws.length → ad.block ≠ p ∧ ad.block ≠ g) := by
  obtain ⟨g, cap, hA, hb, hg⟩ := h.own.form (by omega)
  simp only [Value.slice.injEq] at hA
  obtain ⟨rfl, _, rfl⟩ := hA
  obtain ⟨a, e⟩ : ∃ a, T[k]? = some a := ⟨_, List.getElem?_eq_getElem (by have := h.lenT; omega)⟩
  obtain ⟨Ak, nk, ck, hr, hw, hst, h1000, hap⟩ := h.at_ k _ e
  have hnk : a.ws.length = nk := by have := hw.len; simpa using this
  subst hnk
  have hf : ∀ j, j < 3 → rows.flatten[k * 3 + j]? = [Value.slice Ak a.ws.length ck, .int .i64 a.id, .bool a.held][j]? := fun j hj => by
    rw [flatten_get rows 3 h.rowLen k j hj, hr]; rfl
  refine ⟨g, Ak, ck, a, rfl, hb, hg, h.apart _ rfl, e, ?_, ?_, ?_, hw, hst, h1000, h.own.frozenAt, hr, fun ad h1 h2 => ?_⟩
  · have := hf 0 (by omega)
    exact (h.own.cellAt (k * 3) (by omega)).trans this
  · exact (h.own.cellAt (k * 3 + 1) (by omega)).trans (hf 1 (by omega))
  · exact (h.own.cellAt (k * 3 + 2) (by omega)).trans (hf 2 (by omega))
  · obtain ⟨cs, hc⟩ := hap ad h1 h2
    obtain ⟨h3, h4⟩ := h.off hc
    exact ⟨h3, fun e => h4 (by simp [e])⟩

theorem TblAt.cell (h : TblAt w base p A n c T rows) : w.cell? ⟨p, 0, none⟩ = some (.slice A n c) := h.blk.cell 0
theorem TblAt.frozen (h : TblAt w base p A n c T rows) : w.frozen? ⟨p, 0, none⟩ = false := h.blk.frozen 0
theorem TblAt.n_le (h : TblAt w base p A n c T rows) : n ≤ 9223372036854775807 := by
  obtain ⟨_, _, hs, hc⟩ := ownsRow_form h.own
  injection hs with _ _ hs
  subst hs
  rcases h.own.2 with ⟨hv, h0⟩ | ⟨g, cap, cur, hv, hb, hg, hnc, hcm, _⟩
  · omega
  · unfold maxLen at hcm; omega

theorem TblAt.but (h : TblAt w base p A n c T rows) {S : Nat → Prop} (hb : But S w w') (hp : ¬ S p) (hA : ∀ a, A = some a → ¬ S a.block)
    (hW : ∀ (k : Nat) (a : AskD) (Ak : Option Addr) (nk ck : Nat) (ad : Addr), T[k]? = some a → rows[k]? = some [.slice Ak nk ck, .int .i64 a.id, .bool a.held] → Ak = some ad → 0 < nk → ¬ S ad.block) : TblAt w' base p A n c T rows where
  blk := (hb.block p h.blk.lt hp).trans h.blk
  hp := h.hp
  own := own_but h.own hb (fun g hg => by
    cases A with
    | none => simp [Value.ownBlock] at hg
    | some a => simp [Value.ownBlock] at hg; subst hg; exact hA a rfl)
  lenT := h.lenT
  lenR := h.lenR
  apart := h.apart
  at_ := fun k a hk => by
    obtain ⟨Ak, nk, ck, hr, hw, hst, h1000, hap⟩ := h.at_ k a hk
    exact ⟨Ak, nk, ck, hr, RowsAt.but hw hb (fun ad h1 h2 => hW k a Ak nk ck ad hk hr h1 h2), hst, h1000, fun ad h1 h2 => by
      obtain ⟨cs, hc⟩ := hap ad h1 h2
      exact ⟨cs, hc.as_was (hb.block _ hc.lt (hW k a Ak nk ck ad hk hr h1 h2))⟩⟩
theorem TblAt.below (h : TblAt w base p A n c T rows) (hb : Below w.heap.size w w') : TblAt w' base p A n c T rows :=
  h.but (S := fun _ => False) (But.of_below hb) (fun hf => hf) (fun _ _ hf => hf) (fun _ _ _ _ _ _ _ _ _ _ hf => hf)
end

theorem findC_any (A : Option Addr) (n c : Nat) (i id : Int) (h : Bool) (q : Nat) (w : World) (hq : w.cell? ⟨q, 0, none⟩ = some (.int .i64 id)) :
    Calls Try.prog 99 #[.agg #[.slice A n c, .int .i64 i, .bool h], .pointer (some ⟨q, 0, none⟩)] w fun e w' => e = .returned (.bool (i == id)) ∧ Below w.heap.size w w' := by
  have hlt := World.block_lt_of_cell? w _ hq
  have hne := World.new_ne w _ hq
  go_enter Try.func99, Try.ntmps99
  go_wp2
  go_ret
  exact ⟨rfl, (Below.refl _ _).alloc (Nat.le_refl _) _⟩

/-- an ask's place, or -1 -/
def findT : List AskD → Int → Int
  | [], _ => -1
  | a :: r, id => if a.id == id then 0 else if findT r id = -1 then -1 else findT r id + 1

theorem findT_range (T : List AskD) (id : Int) : findT T id = -1 ∨ (0 ≤ findT T id ∧ findT T id < T.length) := by
  induction T with
  | nil => exact .inl rfl
  | cons a r ih =>
    unfold findT
    split
    · right; simp
    · split
      · exact .inl rfl
      · right; simp only [List.length_cons]; omega
theorem findT_pre (P : List AskD) (R : List AskD) (id : Int) (h : ∀ a ∈ P, (a.id == id) = false) : findT (P ++ R) id = if findT R id = -1 then -1 else findT R id + P.length := by
  have hR := findT_range R id
  by_cases hr : findT R id = -1
  · rw [if_pos hr]
    induction P with
    | nil => exact hr
    | cons a P ih => rw [List.cons_append, findT, h a (by simp), ih fun b hb => h b (by simp [hb])]; simp
  · rw [if_neg hr]
    induction P with
    | nil => simp
    | cons a P ih =>
      rw [List.cons_append, findT, h a (by simp), ih fun b hb => h b (by simp [hb])]
      simp only [Bool.false_eq_true, if_false, List.length_cons]
      rw [if_neg (by omega)]
      omega
theorem findT_yes {T : List AskD} {id : Int} {k : Nat} {a : AskD} (hk : T[k]? = some a) (he : (a.id == id) = true) (hp : ∀ b ∈ T.take k, (b.id == id) = false) : findT T id = k := by
  obtain ⟨hlt, rfl⟩ := List.getElem?_eq_some_iff.1 hk
  have e : T = T.take k ++ T[k] :: T.drop (k + 1) := by rw [← List.drop_eq_getElem_cons hlt, List.take_append_drop]
  have h2 := findT_pre (T.take k) (T[k] :: T.drop (k + 1)) id hp
  rw [← e] at h2
  rw [h2, findT, he]
  simp
  omega
theorem findT_no {T : List AskD} {id : Int} (hp : ∀ b ∈ T, (b.id == id) = false) : findT T id = -1 := by
  have := findT_pre T [] id hp
  simpa [findT] using this

set_option maxHeartbeats 400000 in
theorem indexFind_any (base p : Nat) (A : Option Addr) (n c : Nat) (T : List AskD) (rows) (id : Int) (q : Nat) (w : World) (hT : TblAt w base p A n c T rows) (hq : w.cell? ⟨q, 0, none⟩ = some (.int .i64 id)) :
    Calls Try.prog 98 #[.slice A n c, .func (.func 99) #[] #[.pointer (some ⟨q, 0, none⟩)]] w fun e w' => e = .returned (.int .i64 (findT T id)) ∧ Below w.heap.size w w' := by
  have hn := hT.n_le
  have lT := Lib.hid hT.lenT
  go_enter Try.func98, Try.ntmps98
  go_wp2
  go_loopw [8] (fun i wr => ∃ k : Nat, k ≤ n ∧ i = .int .i64 k ∧ (∀ b ∈ T.take k, (b.id == id) = false) ∧ Below w.heap.size w wr) (fun i _ => n - (intOf i).toNat)
  case atStart => exact ⟨0, Nat.zero_le _, rfl, by simp, Below.refl _ _⟩
  case round =>
    obtain ⟨k, hk, rfl, hpre, hb⟩ := hrel
    have Hpre := Lib.hid hpre; clear hpre
    by_cases hlt : k < n
    · obtain ⟨g, Ak, ck, a, rfl, hbg, hgl, hgp, hTk, hc0, hc1, hc2, hw, hst, h1000, hfz, hrow, hap⟩ := (hT.below hb).get hlt
      have HTk := Lib.hid hTk; clear hTk
      have hq' : wr.cell? ⟨q, 0, none⟩ = some (.int .i64 id) := (hb.cell (p := ⟨q, 0, none⟩) (World.block_lt_of_cell? w _ hq)).trans hq
      by_cases he : (a.id == id) = true
      · go_wp2_with (go_at_call 99; refine (findC_any _ _ _ _ _ _ _ _ hq').mono ?_; rintro e w' ⟨rfl, hb1⟩)
        go_ret
        exact ⟨by rw [findT_yes HTk.out he Hpre.out]; rfl, hb.trans (hb1.mono hb.size)⟩
      · have he : (a.id == id) = false := by simpa using he
        go_wp2_with (go_at_call 99; refine (findC_any _ _ _ _ _ _ _ _ hq').mono ?_; rintro e w' ⟨rfl, hb1⟩)
        go_roundw
        case rel =>
          refine ⟨k + 1, by omega, by go_num, ?_, hb.trans (hb1.mono hb.size)⟩
          rw [take_succ_of HTk.out]
          intro b hb
          rcases List.mem_append.1 hb with hb | hb
          · exact Hpre.out b hb
          · rw [List.mem_singleton.1 hb]; exact he
        case measure => simp [intOf]; omega
    · go_wp2
      go_ret
      refine ⟨?_, hb⟩
      obtain rfl : k = n := by omega
      have h1 := Hpre.out
      rw [← lT.out, List.take_length] at h1
      rw [findT_no h1]; rfl

theorem find_any (base p : Nat) (A : Option Addr) (n c : Nat) (T : List AskD) (rows) (id : Int) (w : World) (hT : TblAt w base p A n c T rows) :
    Calls Try.prog 68 #[.pointer (some ⟨p, 0, none⟩), .int .i64 id] w fun e w' => e = .returned (.int .i64 (findT T id)) ∧ Below w.heap.size w w' := by
  have hc := hT.cell
  have hlt := hT.blk.lt
  have hne := World.new_ne w _ hc
  have hT1 := hT.below ((Below.refl w.heap.size w).alloc (Nat.le_refl _) (.cells #[.int .i64 id] 3))
  go_enter Try.func68, Try.ntmps68
  go_wp2_with (go_at_call 98; refine (indexFind_any base p A n c T rows id w.heap.size _ hT1 ?_).mono ?_; (simp [go_sem]); rintro e w' ⟨rfl, hb⟩)
  go_ret
  exact ⟨rfl, ((Below.refl _ _).alloc (Nat.le_refl _) _).trans (hb.mono (by simp))⟩
end Go.Proofs.Ytinpihplkikldaa
