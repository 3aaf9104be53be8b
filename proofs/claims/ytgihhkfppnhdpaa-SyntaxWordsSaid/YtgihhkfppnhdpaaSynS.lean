/- Syntax, part S: what a statement uses. -/
import Derived.Test.YtgihhkfppnhdpaaSynO
import Derived.Test.YtgihhkfppnhdpaaSynR
import Derived.Deep.RegionLaw
namespace Go.Proofs.Ytgihhkfppnhdpaa
open Go.RowKit Go.Afx Go.Maps Go.WideMaps

theorem tySt : ElemTy Try.prog 32 52 8 144 (.agg #[.int .i64 0, .string ByteArray.empty, .string ByteArray.empty, .int .i64 0, .slice none 0 0, .slice none 0 0, .slice none 0 0, .slice none 0 0]) := ⟨Try.underlying32, by kernel_rfl, rfl, by decide⟩

/-- 'append' as one step of a region that draws -/
theorem step_app {P : Program} {w : World} {ops : Array Oper} {o : Oper} {a : Act} {K : Act → World → Prop} {Q : Exit → Act → World → Prop} {E : Prop} (hgd : o.guard = none) {s x : Operand} {t : TypeId}
    (ho : o.op = .call { callee := .builtin .append, args := #[s, x], argTypes := #[t, t] })
    {base : Nat} {e : TypeId} {sz bytes : Nat} {z : Value} (hT : ElemTy P t e sz bytes z)
    {A : Option Addr} {n c : Nat} {xs : List (List Value)} (hs : a.eval s = .slice A n c) (hown : w.ownsRow base e sz (.slice A n c) n xs.flatten)
    {A' : Option Addr} {m c' : Nat} {news : List (List Value)} (hx : a.eval x = .slice A' m c') (hnews : RowsAt w sz A' m c' news) (hlen : ∀ r ∈ news, r.length = sz) (h1 : ∀ r ∈ news, ∀ u ∈ r, u.oneCell' = true)
    (h63 : n + m ≤ maxLen) (hbytes : (n + m) * bytes ≤ 140737488355328) (hbase : base ≤ w.heap.size)
    (h : ∀ A2 c2 w', w'.ownsRow base e sz (.slice A2 (n + m) c2) (n + m) (xs ++ news).flatten → But (fun k => A.map (·.block) = some k) w w' → (∀ a2, A2 = some a2 → A = some a2 ∨ w.heap.size ≤ a2.block) → K (a.put o.dst (.slice A2 (n + m) c2)) w') :
    if Region.wanted o (yielded ops a.tmps) = true then Oper.wp P o a w K Q else E := by
  have hw : Region.wanted o (yielded ops a.tmps) = true := by simp [Region.wanted, hgd]
  rw [if_pos hw]
  obtain ⟨A2, c2, w', hr, hown', hb, hf⟩ := run_app (P := P) o.type hT hown hnews hlen h1 h63 hbytes hbase
  unfold Oper.wp execOp
  simp only [ho, resolve, invoke, builtin, Sem.run_bind, Sem.run_pure, Result.andThen_ok, List.map_toArray, List.map_cons, List.map_nil, hs, hx, hr]
  exact h A2 c2 w' hown' hb hf

theorem RowsAt.drew {w : World} {sz : Nat} {A : Option Addr} {n c : Nat} {xs : List (List Value)} (h : RowsAt w sz A n c xs) : RowsAt w.drew sz A n c xs := ⟨h.len, h.cap, h.max, h.at_⟩

/-- 'm[k] = v' as one step of a region that draws -/
theorem step_upd {H : Type} {P : Program} {w : World} {ops : Array Oper} {o : Oper} {a : Act} {K : Act → World → Prop} {Q : Exit → Act → World → Prop} {E : Prop} (hgd : o.guard = none) (m x v : Operand) (t : TypeId) (hop : o.op = .mapUpdate t m x v)
    (k e : TypeId) (Kd : Keyed P k) (ht : P.underlying t = some (.map k e)) (R : Value → Option (DataW H × List MemPlace)) (b n : Nat) (D : DataW H)
    (hm : a.eval m = .map (some b)) (hown : w.ownsMap P k R b n D) (hn : n < maxLen) (key val : Value) (kl : Lit) (hx : a.eval x = key) (hv : a.eval v = val) (hkey : keyOf P k key = some kl)
    (d : DataW H) (ps : List MemPlace) (hval : R val = some (d, ps))
    (h : ∀ w', w'.ownsMap P k R b (n + 1) (D.put kl d) → w.grownBy w' (some b) → K (a.put o.dst undef) w') :
    if Region.wanted o (yielded ops a.tmps) = true then Oper.wp P o a w K Q else E := by
  have hw : Region.wanted o (yielded ops a.tmps) = true := by simp [Region.wanted, hgd]
  rw [if_pos hw]
  obtain ⟨w', hrun, r1, r2⟩ := hown.update Kd ht hn hkey hval
  unfold Oper.wp
  simp [execOp, hop, hm, hx, hv, hrun, Result.andThen]
  exact h w' r1 r2

theorem ls_rows {F : Nat → Prop} {w : World} {d : Nat} {A : Option Addr} {n c : Nat} {xs : List St} (h : StsAt F d w A n c xs) :
    ∃ rows, RowsAt w 8 A n c rows ∧ (∀ r ∈ rows, r.length = 8) ∧ (∀ r ∈ rows, ∀ u ∈ r, u.oneCell' = true) ∧ rows.length = xs.length ∧ ∀ (k : Nat) (r : List Value) (x : St), rows[k]? = some r → xs[k]? = some x → r.length = 8 ∧ StAt F d w r x := by
  obtain ⟨rows, hr, _, hl, hp⟩ := h
  have hx : ∀ r ∈ rows, ∃ x, StAt F d w r x := by
    intro r hr
    obtain ⟨k, hk⟩ := List.mem_iff_getElem?.1 hr
    have hlt := (List.getElem?_eq_some_iff.1 hk).1
    exact ⟨_, (hp k r (xs[k]'(by omega)) hk (List.getElem?_eq_getElem _)).2⟩
  exact ⟨rows, hr, fun r h => by obtain ⟨x, hx⟩ := hx r h; exact hx.len, fun r h => by obtain ⟨x, hx⟩ := hx r h; exact hx.one, hl, hp⟩

set_option maxRecDepth 100000 in
theorem cloneSt_any (A : Option Addr) (n c : Nat) (rows : List (List Value)) (hn : n ≤ 1000000) (w : World) (hW : RowsAt w 8 A n c rows) (h8 : ∀ r ∈ rows, r.length = 8) (h1 : ∀ r ∈ rows, ∀ u ∈ r, u.oneCell' = true) :
    Calls Try.prog 67 #[.slice A n c] w fun e w' => ∃ A2 c2, e = .returned (.slice A2 n c2) ∧ w'.ownsRow w.heap.size 52 8 (.slice A2 n c2) n rows.flatten ∧ Below w.heap.size w w' := by
  have hl : rows.length = n := hW.len
  have q22 : ∀ (w : World) (a : Option Addr) (n c n' c' : Nat), (binOp .eql 32 (.slice a n c) (.slice none n' c')).run Try.prog w = .ok (.bool a.isNone) w := fun w a n c n' c' => Lib.run_eql_slice_nil w _ _ a n c n' c' Try.underlying32
  cases A with
  | none =>
    have h0 : rows = [] := by
      cases rows with
      | nil => rfl
      | cons a r =>
        obtain ⟨b, o, e, _⟩ := hW.at_ 0 a rfl
        cases e
    subst h0
    obtain rfl : n = 0 := by simpa using hl.symm
    go_enter Try.func67, Try.ntmps67
    go_wp2
    go_ret
    exact ⟨none, 0, rfl, World.ownsRow_nil _ _ _ _, Below.refl _ _⟩
  | some a =>
    have hW2 : RowsAt (w.alloc (.cells #[] 52)) 8 (some a) n c rows := hW.below ((Below.refl _ _).alloc (Nat.le_refl _) _)
    have hown : (w.alloc (.cells #[] 52)).ownsRow w.heap.size 52 8 (.slice (some ⟨w.heap.size, 0, none⟩) 0 0) 0 ([] : List (List Value)).flatten := World.ownsRow_made w #[] 0 (Nat.le_refl _) (Nat.zero_le _) (by simp)
    go_enter Try.func67, Try.ntmps67
    go_wp2_with (at_builtin; refine wpList_app rfl rfl tySt rfl hown rfl hW2 h8 h1 ?_ ?_ ?_ ?_; (unfold maxLen; omega); omega; (simp); intro A3 c3 w3 hown3 hbut3 hf3)
    go_ret
    refine ⟨A3, c3, by simp, ?_, ?_⟩
    · simpa using hown3
    · refine ((Below.refl _ _).alloc (Nat.le_refl _) _).trans (hbut3.below' (by simp) (fun i hi => ?_))
      simp at hi; omega
end Go.Proofs.Ytgihhkfppnhdpaa
