/- Parts of this proof, one behind the other: RefC, RefA, RefJ, RefK. -/
import Derived.Test.YtmgldjpdhpopnaaGreatDoorPp9
import Derived.Outline
set_option maxRecDepth 1000000
set_option maxHeartbeats 40000000
namespace Go.Afx
open Go.RowKit
def tellN (N H : Nat) : Int × Int := if 1000 ≤ N then (1000, 1000) else (N, H)
def tellE (e : Ex) : Int × Int := tellN (cntE 50 e) (dptE 50 e)
def tellS (x : St) : Int × Int := tellN (cntS 101 x) (dptS 101 x)
def sumT (l : List (Int × Int)) : Int := (l.map (·.1)).sum
def topT (l : List (Int × Int)) : Int := l.foldl (fun m t => max m (t.2 + 1)) 1
theorem sumT_snoc (l : List (Int × Int)) (t : Int × Int) : sumT (l ++ [t]) = sumT l + t.1 := by simp [sumT]
theorem topT_snoc (l : List (Int × Int)) (t : Int × Int) : topT (l ++ [t]) = max (topT l) (t.2 + 1) := by simp [topT]
theorem sumT_app (a b : List (Int × Int)) : sumT (a ++ b) = sumT a + sumT b := by simp [sumT]
theorem fold_max (l : List (Int × Int)) : ∀ m n : Int, l.foldl (fun m t => max m (t.2 + 1)) (max m n) = max m (l.foldl (fun m t => max m (t.2 + 1)) n) := by
 induction l with
 | nil => intro m n; rfl
 | cons a r ih => intro m n; rw [List.foldl_cons, List.foldl_cons, ← ih, Int.max_assoc]
theorem topT_ge (l : List (Int × Int)) : ∀ m : Int, m ≤ l.foldl (fun m t => max m (t.2 + 1)) m := by
 induction l with
 | nil => intro m; exact Int.le_refl _
 | cons a r ih => intro m; rw [List.foldl_cons]; have := ih (max m (a.2 + 1)); omega
theorem topT_app (a b : List (Int × Int)) : topT (a ++ b) = max (topT a) (topT b) := by
 unfold topT
 rw [List.foldl_append]
 have h := topT_ge a 1
 have e : a.foldl (fun m t => max m (t.2 + 1)) 1 = max (a.foldl (fun m t => max m (t.2 + 1)) 1) 1 := by omega
 rw [e, fold_max, ← e]
def Tok (t : Int × Int) : Prop := 0 ≤ t.1 ∧ t.1 ≤ 1000 ∧ 0 ≤ t.2 ∧ t.2 ≤ 1000
theorem tellN_ok {N H : Nat} (h : H ≤ 900) : Tok (tellN N H) := by
 unfold tellN Tok; split <;> simp <;> omega
theorem tellE_ok (e : Ex) : Tok (tellE e) := tellN_ok (by have := dptE_le 50 e; omega)
theorem tellS_ok (x : St) : Tok (tellS x) := tellN_ok (by have := dptS_le 101 x; omega)
theorem tok_okI {t : Int × Int} (h : Tok t) : okI t.1 ∧ okI t.2 := by
 unfold Tok at h; unfold okI; omega
theorem sumT_bd {l : List (Int × Int)} (h : ∀ t ∈ l, Tok t) : 0 ≤ sumT l ∧ sumT l ≤ 1000 * l.length := by
 induction l with
 | nil => simp [sumT]
 | cons a r ih =>
  have h1 := h a (by simp)
  have h2 := ih fun t ht => h t (by simp [ht])
  unfold Tok at h1
  have e : sumT (a :: r) = a.1 + sumT r := by simp [sumT]
  rw [e, List.length_cons]
  omega
theorem topT_le {l : List (Int × Int)} {b : Int} (h : ∀ t ∈ l, t.2 + 1 ≤ b) : ∀ m : Int, m ≤ b → l.foldl (fun m t => max m (t.2 + 1)) m ≤ b := by
 induction l with
 | nil => intro m hm; exact hm
 | cons a r ih => intro m hm; rw [List.foldl_cons]; exact ih (fun t ht => h t (by simp [ht])) _ (by have := h a (by simp); omega)
theorem topT_bd {l : List (Int × Int)} (h : ∀ t ∈ l, Tok t) : 1 ≤ topT l ∧ topT l ≤ 1001 :=
 ⟨topT_ge l 1, topT_le (fun t ht => by have := (h t ht).2.2.2; omega) 1 (by omega)⟩
theorem tells_all {P : List (Nat × Nat)} (h : ∀ p ∈ P, p.2 ≤ 900) : toldZ (1 + sumT (P.map fun p => tellN p.1 p.2), topT (P.map fun p => tellN p.1 p.2)) = tellN (1 + (P.map (·.1)).sum) (1 + maxN (P.map (·.2))) := by
 have hn : ∀ Q : List (Nat × Nat), (∀ p ∈ Q, p.1 < 1000) → sumT (Q.map fun p => tellN p.1 p.2) = ((Q.map (·.1)).sum : Nat) ∧ ∀ m : Nat, (Q.map fun p => tellN p.1 p.2).foldl (fun m t => max m (t.2 + 1)) ((m : Int) + 1) = ((1 + max m (maxN (Q.map (·.2))) : Nat) : Int) := by
  intro Q
  induction Q with
  | nil => intro _; exact ⟨by simp [sumT], fun m => by simp [maxN]; omega⟩
  | cons a r ih =>
   intro hq
   obtain ⟨i1, i2⟩ := ih fun p hp => hq p (by simp [hp])
   have ha : tellN a.1 a.2 = ((a.1 : Int), (a.2 : Int)) := by have := hq a (by simp); unfold tellN; rw [if_neg (by omega)]
   refine ⟨?_, fun m => ?_⟩
   ·simp only [List.map_cons, List.sum_cons, ha]
    have e : sumT (((a.1 : Int), (a.2 : Int)) :: r.map fun p => tellN p.1 p.2) = a.1 + sumT (r.map fun p => tellN p.1 p.2) := by simp [sumT]
    rw [e, i1]; omega
   ·simp only [List.map_cons, List.foldl_cons, ha]
    have e : max ((m : Int) + 1) ((a.2 : Int) + 1) = ((max m a.2 : Nat) : Int) + 1 := by omega
    rw [e, i2, maxN_cons]
    omega
 by_cases hall : ∀ p ∈ P, p.1 < 1000
 ·obtain ⟨h1, h2⟩ := hn P hall
  have h3 := h2 0
  simp only [Nat.zero_max, Int.natCast_zero, Int.zero_add] at h3
  have h4 : maxN (P.map (·.2)) ≤ 900 := maxN_le fun x hx => by obtain ⟨p, hp, rfl⟩ := List.mem_map.1 hx; exact h p hp
  have h5 : topT (P.map fun p => tellN p.1 p.2) = ((1 + maxN (P.map (·.2)) : Nat) : Int) := h3
  rw [h1, h5]
  unfold toldZ fullZ tellN
  by_cases hN : 1000 ≤ 1 + (P.map (·.1)).sum
  ·rw [if_pos hN, if_pos]
   simp; omega
  ·rw [if_neg hN, if_neg]
   ·simp
   ·simp; omega
 ·have hall : ∃ p ∈ P, 1000 ≤ p.1 := by
   apply Classical.byContradiction
   intro hc
   exact hall fun p hp => by
    apply Classical.byContradiction
    intro h1
    exact hc ⟨p, hp, by omega⟩
  obtain ⟨p, hp, hp1⟩ := hall
  have h1 : 1000 ≤ (P.map (·.1)).sum := by
   have : ∀ Q : List (Nat × Nat), p ∈ Q → p.1 ≤ (Q.map (·.1)).sum := by
    intro Q
    induction Q with
    | nil => intro h; cases h
    | cons a r ih =>
     intro h
     rw [List.map_cons, List.sum_cons]
     rcases List.mem_cons.1 h with rfl | h
     ·omega
     ·have := ih h; omega
   have := this P hp
   omega
  have hok : ∀ t ∈ P.map (fun p => tellN p.1 p.2), Tok t := fun t ht => by obtain ⟨q, hq, rfl⟩ := List.mem_map.1 ht; exact tellN_ok (h q hq)
  have h2 : 1000 ≤ sumT (P.map fun p => tellN p.1 p.2) := by
   have : ∀ Q : List (Int × Int), (∀ t ∈ Q, Tok t) → (1000, 1000) ∈ Q → 1000 ≤ sumT Q := by
    intro Q
    induction Q with
    | nil => intro _ h; cases h
    | cons a r ih =>
     intro hq h
     have e : sumT (a :: r) = a.1 + sumT r := by simp [sumT]
     rw [e]
     have b := (sumT_bd fun t ht => hq t (List.mem_cons_of_mem _ ht)).1
     rcases List.mem_cons.1 h with rfl | h
     ·show (1000 : Int) ≤ 1000 + sumT r; omega
     ·have a1 := (hq a (by simp)).1
      have := ih (fun t ht => hq t (by simp [ht])) h
      omega
   exact this _ hok (List.mem_map.2 ⟨p, hp, if_pos hp1⟩)
  unfold toldZ fullZ tellN at *
  rw [if_pos (by simp; omega), if_pos (by omega)]
theorem tell_mkE {op n : Int} {s name src : ByteArray} {args : List Ex} (h : ∀ a ∈ args, FitsE 49 a) : toldZ (1 + sumT (args.map tellE), topT (args.map tellE)) = tellE (.mk op n s name src args) := by
 have h1 := tells_all (P := args.map fun a => (cntE 50 a, dptE 50 a)) (fun p hp => by obtain ⟨a, _, rfl⟩ := List.mem_map.1 hp; have := dptE_le 50 a; simp only; omega)
 rw [List.map_map, List.map_map, List.map_map] at h1
 have e1 : args.map ((fun p : Nat × Nat => tellN p.1 p.2) ∘ fun a => (cntE 50 a, dptE 50 a)) = args.map tellE := rfl
 have e2 : args.map ((fun p : Nat × Nat => p.1) ∘ fun a => (cntE 50 a, dptE 50 a)) = args.map (cntE 49) := map_same fun a ha => cntE_fits 49 (by omega) (h a ha)
 have e3 : args.map ((fun p : Nat × Nat => p.2) ∘ fun a => (cntE 50 a, dptE 50 a)) = args.map (dptE 49) := map_same fun a ha => dptE_fits 49 (by omega) (h a ha)
 rw [e1, e2, e3] at h1
 exact h1
theorem sum_app3 (a b c : List Nat) : (a ++ b ++ c).sum = a.sum + b.sum + c.sum := by simp; omega
theorem maxN_app (a b : List Nat) : maxN (a ++ b) = max (maxN a) (maxN b) := by
 induction a with
 | nil => simp [maxN]
 | cons x r ih => rw [List.cons_append, maxN_cons, maxN_cons, ih]; omega
theorem tell_mkS {op n : Int} {name src : ByteArray} {cols : List ByteArray} {exprs : List Ex} {body els : List St} (he : ∀ a ∈ exprs, FitsE 50 a) (hb : ∀ a ∈ body, FitsS 100 a) (hl : ∀ a ∈ els, FitsS 100 a) :
  toldZ (1 + (sumT (exprs.map tellE) + sumT (body.map tellS) + sumT (els.map tellS)), max (max (topT (exprs.map tellE)) (topT (body.map tellS))) (topT (els.map tellS))) = tellS (.mk op name src n cols exprs body els) := by
 rw [← sumT_app, ← sumT_app, ← topT_app, ← topT_app]
 have h1 := tells_all (P := (exprs.map fun a => (cntE 50 a, dptE 50 a)) ++ (body.map fun a => (cntS 101 a, dptS 101 a)) ++ (els.map fun a => (cntS 101 a, dptS 101 a))) (fun p hp => by
  rcases List.mem_append.1 hp with hp | hp
  ·rcases List.mem_append.1 hp with hp | hp
   ·obtain ⟨a, _, rfl⟩ := List.mem_map.1 hp; have := dptE_le 50 a; simp only; omega
   ·obtain ⟨a, _, rfl⟩ := List.mem_map.1 hp; have := dptS_le 101 a; simp only; omega
  ·obtain ⟨a, _, rfl⟩ := List.mem_map.1 hp; have := dptS_le 101 a; simp only; omega)
 simp only [List.map_append, List.map_map] at h1
 rw [sum_app3, maxN_app, maxN_app] at h1
 have e1 : exprs.map ((fun p : Nat × Nat => tellN p.1 p.2) ∘ fun a => (cntE 50 a, dptE 50 a)) = exprs.map tellE := rfl
 have f1 : body.map ((fun p : Nat × Nat => tellN p.1 p.2) ∘ fun a => (cntS 101 a, dptS 101 a)) = body.map tellS := rfl
 have f2 : els.map ((fun p : Nat × Nat => tellN p.1 p.2) ∘ fun a => (cntS 101 a, dptS 101 a)) = els.map tellS := rfl
 have e2 : exprs.map ((fun p : Nat × Nat => p.1) ∘ fun a => (cntE 50 a, dptE 50 a)) = exprs.map (cntE 100) := map_same fun a ha => (cntE_fits 50 (by omega) (he a ha)).symm
 have e3 : exprs.map ((fun p : Nat × Nat => p.2) ∘ fun a => (cntE 50 a, dptE 50 a)) = exprs.map (dptE 100) := map_same fun a ha => (dptE_fits 50 (by omega) (he a ha)).symm
 have g2 : body.map ((fun p : Nat × Nat => p.1) ∘ fun a => (cntS 101 a, dptS 101 a)) = body.map (cntS 100) := map_same fun a ha => cntS_fits 100 (by omega) (hb a ha)
 have g3 : body.map ((fun p : Nat × Nat => p.2) ∘ fun a => (cntS 101 a, dptS 101 a)) = body.map (dptS 100) := map_same fun a ha => dptS_fits 100 (by omega) (hb a ha)
 have k2 : els.map ((fun p : Nat × Nat => p.1) ∘ fun a => (cntS 101 a, dptS 101 a)) = els.map (cntS 100) := map_same fun a ha => cntS_fits 100 (by omega) (hl a ha)
 have k3 : els.map ((fun p : Nat × Nat => p.2) ∘ fun a => (cntS 101 a, dptS 101 a)) = els.map (dptS 100) := map_same fun a ha => dptS_fits 100 (by omega) (hl a ha)
 rw [e1, f1, f2, e2, e3, g2, g3, k2, k3] at h1
 rw [h1]
 unfold tellS
 rw [cntS, dptS]
 simp only [St.exprs, St.body, St.els]
 congr 1
 omega
end Go.Afx
namespace Go.Proofs.YtmgldjpdhpopnaaGreatDoor
open Go.RowKit Go.Afx
def inB (s : ByteArray) (c : UInt8) : Bool := s.data.toList.any fun x => x == c
theorem in_any (s : ByteArray) (c : UInt8) (w : World) (hs : okS s) : Calls Tryz.prog 125 #[.string s, .int .u8 (c.toNat : Int)] w fun x w' => x = .returned (.bool (inB s c)) ∧ w = w' := by
 unfold okS at hs
 go_enter Tryz.func125, Tryz.ntmps125
 go_wp2
 go_loop [5] (fun i => ∃ k : Nat, k ≤ s.size ∧ i = .int .i64 k ∧ ∀ y ∈ s.data.toList.take k, (y == c) = false) (fun i => s.size - (intOf i).toNat)
 case atStart => exact ⟨0, Nat.zero_le _, rfl, by simp⟩
 case round =>
  obtain ⟨k, hk, rfl, hno⟩ := hrel
  have Hno := Lhd hno
  clear hno
  by_cases hlt : k < s.size
  ·have Hy := Lhd (show s.data.toList[k]? = some s[k] by rw [List.getElem?_eq_getElem (by simpa using hlt)]; rfl)
   by_cases he : (s[k] == c) = true
   ·have Hf : Hid (inB s c = true) := Lhd (by unfold inB; rw [List.any_eq_true]; exact ⟨_, List.mem_of_getElem? Hy.out, he⟩)
    have hd : ((s[k].toNat : Int) == (c.toNat : Int)) = true := by
     have : s[k] = c := by simpa using he
     rw [this]; simp
    clear he
    go_wp2
    go_ret
    exact ⟨ret_bool Hf.out.symm, rfl⟩
   ·have he : (s[k] == c) = false := by simpa using he
    have Hne := Lhd (mem_take_succ Hy.out Hno.out he)
    have hd : ((s[k].toNat : Int) == (c.toNat : Int)) = false := by
     rw [beq_eq_false_iff_ne]
     intro h
     have h2 : s[k].toNat = c.toNat := by exact_mod_cast h
     have : s[k] = c := UInt8.toNat_inj.1 h2
     simp [this] at he
    clear he
    go_wp2
    go_round
    case rel => exact ⟨k + 1, by omega, by go_num, Hne.out⟩
    case measure => simp [intOf]; omega
  ·go_wp2
   go_ret
   have h1 := Hno.out
   rw [List.take_of_length_le (by simp; omega)] at h1
   exact ⟨ret_bool (by unfold inB; rw [eq_comm, List.any_eq_false]; exact fun y hy => by simp [h1 y hy]), rfl⟩
def atB (part : ByteArray) (l : List Co) : Bool := noS part || l.any fun c => decide (c.name = part)
def refH (name src part : ByteArray) (fuel : Int) (params : List Co) : Bool :=
 params.all (fun c => freeB c.name && kindB c) && decide (params.map Co.name).Nodup && !(!noS src && (!freeB src || decide (0 < params.length))) && (freeB name && decide (params.length ≤ 8) && atB part params && decide (1 ≤ fuel) && decide (fuel ≤ 2000))
theorem refH_heads (name src part : ByteArray) (fuel : Int) (params : List Co) : refH name src part fuel params = headsR name src part fuel params := by
 have e1 : params.all (fun c => freeB c.name && kindB c) = (params.all kindB && freesB (params.map Co.name)) := by
  rw [freesB_all]
  induction params with
  | nil => rfl
  | cons a r ih =>
   rw [List.all_cons, List.all_cons, List.map_cons, List.all_cons, ih]
   cases freeB a.name <;> cases kindB a <;> cases (List.all r kindB) <;> cases (List.all (r.map Co.name) freeB) <;> rfl
 have e2 : atB part params = (noS part || (params.map Co.name).any fun x => decide (x = part)) := by
  unfold atB
  rw [List.any_map]
  rfl
 have e3 : params.length = 0 → (params.map Co.name).any (fun x => decide (x = part)) = false := fun h => by
  rw [List.eq_nil_of_length_eq_zero h]; rfl
 unfold refH headsR
 rw [e1, e2]
 generalize params.all kindB = a at *
 generalize freesB (params.map Co.name) = b at *
 generalize decide (params.map Co.name).Nodup = c at *
 generalize freeB name = d at *
 generalize freeB src = g at *
 generalize (params.map Co.name).any (fun x => decide (x = part)) = h at *
 generalize noS src = i at *
 generalize noS part = j at *
 rcases Nat.eq_zero_or_pos params.length with h0 | h0
 ·rw [h0, e3 h0]
  cases a <;> cases b <;> cases c <;> cases d <;> cases g <;> cases i <;> cases j <;> simp
 ·have h1 : decide (0 < params.length) = true := by simpa using h0
  have h2 : decide (params.length = 0) = false := by simp; intro h; rw [h] at h0; simp at h0
  rw [h1, h2]
  cases a <;> cases b <;> cases c <;> cases d <;> cases g <;> cases i <;> cases j <;> cases h <;> simp <;> try (cases decide (params.length ≤ 8) <;> cases decide (1 ≤ fuel) <;> cases decide (fuel ≤ 2000) <;> rfl)
theorem prBoxK {w : World} {g : Nat} {T : TypeId} {v0 v1 v2 v3 v4 v5 : Value} (h : IsBlk w g T #[v0, v1, v2, v3, v4, v5]) :
  w.cell? ⟨g, 0, none⟩ = some v0 ∧ w.cell? ⟨g, 1, none⟩ = some v1 ∧ w.cell? ⟨g, 2, none⟩ = some v2 ∧ w.cell? ⟨g, 3, none⟩ = some v3 ∧ w.cell? ⟨g, 4, none⟩ = some v4 ∧ w.cell? ⟨g, 5, none⟩ = some v5 ∧ g < w.heap.size := by
 have h0 := h.cell 0; have h1 := h.cell 1; have h2 := h.cell 2; have h3 := h.cell 3; have h4 := h.cell 4; have h5 := h.cell 5
 simp at h0 h1 h2 h3 h4 h5
 exact ⟨h0, h1, h2, h3, h4, h5, h.lt⟩
theorem atB_snoc {part : ByteArray} {l : List Co} {k : Nat} {x : Co} (h : l[k]? = some x) : atB part (l.take (k + 1)) = (atB part (l.take k) || decide (x.name = part)) := by
 unfold atB
 rw [take_succ_of' h, List.any_append]
 simp [Bool.or_assoc]
theorem strE (s : ByteArray) : (s.toList == []) = noS s := by
 cases h : noS s
 ·have := str_some h
  cases hq : s.toList with
  | nil => rw [hq] at this; cases this
  | cons a r => rfl
 ·rw [str_empty h]; rfl
theorem rheads_any (F : Nat → Prop) (name src part : ByteArray) (fuel : Int) (Ap Ab : Option Addr) (np cp nb cb : Nat) (params : List Co) (w : World) (hp : LsAt F w 2 CoRow Ap np cp params) (okn : okS name) (oks : okS src) :
  Calls Tryz.prog 36 #[.agg #[.string name, .string src, .string part, .int .i64 fuel, .slice Ap np cp, .slice Ab nb cb]] w fun e w' => e = .returned (.bool (refH name src part fuel params)) ∧ Below w.heap.size w w' := by
 have hnp := hp.n_le
 have Hl := Lhd (LsAt.len hp)
 obtain ⟨w2, Hw2⟩ : ∃ w2, Hid (w2 = w.alloc (.cells #[.string name, .string src, .string part, .int .i64 fuel, .slice Ap np cp, .slice Ab nb cb] 50)) := ⟨_, rfl⟩
 have hb2 : Below w.heap.size w w2 := by rw [Hw2.out]; exact (Below.refl _ _).alloc (Nat.le_refl _) _
 have hx2 : IsBlk w2 w.heap.size 50 #[.string name, .string src, .string part, .int .i64 fuel, .slice Ap np cp, .slice Ab nb cb] := by rw [Hw2.out]; exact IsBlk.laid _ _ _
 have HX := Lhd (fun W (hW : Below w2.heap.size w2 W) => prBoxK (hx2.as_was (hW.block _ hx2.lt)))
 have Hp2 := Lhd (fun W (hW : Below w2.heap.size w2 W) => (hp.below hb2).below hW)
 have Hb2 := Lhd hb2
 obtain ⟨x0, x1, x2, x3, x4, x5, xl⟩ := prBoxK hx2
 have hse := strE part
 obtain ⟨a0, Ha0⟩ : ∃ b, Hid (noS part = b) := ⟨_, rfl⟩
 rw [Ha0.out] at hse
 have Hat0 : Hid (atB part [] = a0) := Lhd (by unfold atB; rw [Ha0.out]; simp)
 have H22 := Lhd (Below.refl w2.heap.size w2)
 clear hp hx2 hb2
 go_enter Tryz.func36, Tryz.ntmps36
 go_upto_region 1 with (fail)
 rw [← Hw2.out]
 go_wp2
 go_loopw [3, 4] (fun u3 i wr => ∃ k : Nat, k ≤ np ∧ i = .int .i64 k ∧ u3 = .bool (atB part (params.take k)) ∧ (∀ c ∈ params.take k, (freeB c.name && kindB c) = true) ∧ ((params.take k).map Co.name).Nodup ∧ Below w2.heap.size w2 wr) (fun _ i _ => np - (intOf i).toNat)
 case atStart => exact ⟨0, Nat.zero_le _, rfl, by rw [List.take_zero, Hat0.out], by simp, by simp, H22.out⟩
 case round =>
  clear x0 x1 x2 x3 x4 x5 xl hse
  generalize wr = w7 at *
  obtain ⟨k, hk, rfl, rfl, hall, hnd, hB7⟩ := hrel
  obtain ⟨av, Hav⟩ : ∃ b, Hid (atB part (params.take k) = b) := ⟨_, rfl⟩
  rw [Hav.out]
  have Hall := Lhd hall
  have Hnd := Lhd hnd
  have H27 := Lhd hB7
  have H07 := Lhd (Hb2.out.trans (hB7.mono Hb2.out.size))
  obtain ⟨z0, z1, z2, z3, z4, z5, zl⟩ := HX.out w7 hB7
  clear hall hnd hB7
  by_cases hlt : k < np
  ·obtain ⟨b, o, c, rfl, hbl, hck, okc, oki, hc0, hc1⟩ := coAt (Hp2.out w7 H27.out) hlt
   have Hck := Lhd hck
   have hstep := atB_snoc (part := part) hck
   rw [Hav.out] at hstep
   have Hstep := Lhd hstep
   obtain ⟨q, Hq⟩ : ∃ q, Hid (freeB c.name = q) := ⟨_, rfl⟩
   have hFc := fun W => freeRef_any c.name W okc
   rw [Hq.out] at hFc
   have HFc := Lhd hFc
   clear hck hFc hstep
   have Hno : Hid (∀ v : Bool, (freeB c.name && kindB c) = false → refH name src part fuel params = false) := Lhd (fun _ hv => by
    have h1 : params.all (fun c => freeB c.name && kindB c) = false := by rw [List.all_eq_false]; exact ⟨c, List.mem_of_getElem? Hck.out, by rw [hv]; simp⟩
    unfold refH; rw [h1]; simp)
   cases q
   ·go_wp2_with (go_at_call 77; refine (HFc.out _).mono ?_; rintro e w8 ⟨rfl, hb8⟩)
    go_ret
    exact ⟨ret_bool (by rw [Hno.out true (by rw [Hq.out]; rfl)]), H07.out.trans (hb8.mono H07.out.size)⟩
   have Hcc := Lhd (fun W (hW : Below w2.heap.size w2 W) => coAt (Hp2.out W hW) hlt)
   by_cases hk1 : c.kind < 1
   ·have Hkb : Hid (kindB c = false) := Lhd (by unfold kindB; simp; omega)
    go_wp2_with (go_at_call 77; refine (HFc.out _).mono ?_; rintro e w8 ⟨rfl, hb8⟩; (obtain ⟨t0, t1, t2, t3, t4, t5, tl⟩ := HX.out w8 (H27.out.trans (hb8.mono H27.out.size))); (have s0 := (hb8.cell (p := ⟨b, o + k * 2, none⟩) hbl).trans hc0); (have s1 := (hb8.cell (p := ⟨b, o + k * 2 + 1, none⟩) hbl).trans hc1))
    go_ret
    exact ⟨ret_bool (by rw [Hno.out true (by rw [Hkb.out]; simp)]), H07.out.trans (hb8.mono H07.out.size)⟩
   by_cases hk3 : 3 < c.kind
   ·have Hkb : Hid (kindB c = false) := Lhd (by unfold kindB; simp; omega)
    go_wp2_with (go_at_call 77; refine (HFc.out _).mono ?_; rintro e w8 ⟨rfl, hb8⟩; (obtain ⟨t0, t1, t2, t3, t4, t5, tl⟩ := HX.out w8 (H27.out.trans (hb8.mono H27.out.size))); (have s0 := (hb8.cell (p := ⟨b, o + k * 2, none⟩) hbl).trans hc0); (have s1 := (hb8.cell (p := ⟨b, o + k * 2 + 1, none⟩) hbl).trans hc1))
    go_ret
    exact ⟨ret_bool (by rw [Hno.out true (by rw [Hkb.out]; simp)]), H07.out.trans (hb8.mono H07.out.size)⟩
   have Hkb : Hid (kindB c = true) := Lhd (by unfold kindB; simp; omega)
   obtain ⟨he, Hhe⟩ : ∃ b, Hid (decide (c.name = part) = b) := ⟨_, rfl⟩
   have heq : (part.toList == c.name.toList) = he := by rw [bs_eq, ← Hhe.out, decide_eq_decide]; exact eq_comm
   cases av
   all_goals
    go_wp2_with (go_at_call 77; refine (HFc.out _).mono ?_; rintro e w8 ⟨rfl, hb8⟩; (obtain ⟨t0, t1, t2, t3, t4, t5, tl⟩ := HX.out w8 (H27.out.trans (hb8.mono H27.out.size))); (have s0 := (hb8.cell (p := ⟨b, o + k * 2, none⟩) hbl).trans hc0); (have s1 := (hb8.cell (p := ⟨b, o + k * 2 + 1, none⟩) hbl).trans hc1))
    go_quiet (fail)
    go_wp2
    have H28 := Lhd (below_drewN (H27.out.trans (hb8.mono H27.out.size)) nq)
    clear z0 z1 z2 z3 z4 z5 zl t0 t1 t2 t3 t4 t5 tl s0 s1 heq
    go_loopw [5] (fun i wr => ∃ j : Nat, j ≤ k ∧ i = .int .i64 j ∧ (∀ y ∈ params.take j, (y.name.toList == c.name.toList) = false) ∧ Below w2.heap.size w2 wr) (fun i _ => k - (intOf i).toNat)
    case atStart => exact ⟨0, Nat.zero_le _, rfl, by simp, H28.out⟩
    case round =>
     obtain ⟨j, hj, rfl, hne', hB9⟩ := hrel
     have Hne' := Lhd hne'
     clear hne'
     obtain ⟨z0, z1, z2, z3, z4, z5, zl⟩ := HX.out wr hB9
     by_cases hjk : j < k
     ·obtain ⟨b', o', y, hA', hbl2, hyj, _, _, hd0, hd1⟩ := coAt (Hp2.out wr hB9) (k := j) (by omega)
      obtain ⟨b'', o'', y'', hA'', hbl3, hyk, _, _, hd2, hd3⟩ := Hcc.out wr hB9
      simp only [Option.some.injEq, Addr.mk.injEq, and_true] at hA' hA''
      obtain ⟨rfl, rfl⟩ := hA'
      obtain ⟨rfl, rfl⟩ := hA''
      have e2 := Hck.out.symm.trans hyk
      injection e2 with e2
      subst e2
      have Hyj := Lhd hyj
      clear hyj hyk
      by_cases hsame : (y.name.toList == c.name.toList) = true
      ·have Hf : Hid (refH name src part fuel params = false) := Lhd (by
        have h1 : decide (params.map Co.name).Nodup = false := by
         rw [decide_eq_false_iff_not]
         intro hn2
         have hyx : y.name = c.name := by simpa [bs_eq] using hsame
         have a1 := (List.getElem?_eq_some_iff.1 Hyj.out)
         have a2 := (List.getElem?_eq_some_iff.1 Hck.out)
         have h3 := (List.getElem_inj (xs := params.map Co.name) (i := j) (j := k) (h₀ := by simpa using a1.1) (h₁ := by simpa using a2.1) hn2).1 (by simp [a1.2, a2.2, hyx])
         omega
        unfold refH; rw [h1]; simp)
       have H09 := Lhd (Hb2.out.trans (hB9.mono Hb2.out.size))
       go_wp2
       go_quiet (fail)
       go_wp2
       go_ret
       exact ⟨ret_bool (by rw [Hf.out]), below_drewN H09.out _⟩
      ·have hsame : (y.name.toList == c.name.toList) = false := by simpa using hsame
       have Hnx := Lhd (mem_take_succ Hyj.out Hne'.out hsame)
       go_wp2
       go_quiet (fail)
       go_wp2
       go_roundw
       case rel => exact ⟨j + 1, by omega, by go_num, Hnx.out, below_drewN hB9 _⟩
       case measure => simp [intOf]; omega
     ·have Hf1 := Lhd (mem_take_succ Hck.out Hall.out (P := fun c => (freeB c.name && kindB c) = true) (by rw [Hq.out, Hkb.out]; rfl))
      have Hn1 : Hid (((params.take (k + 1)).map Co.name).Nodup) := Lhd (by
       rw [take_succ_of' Hck.out, List.map_append, List.nodup_append]
       refine ⟨Hnd.out, by simp, fun a ha b hb e => ?_⟩
       simp at hb
       obtain ⟨y, hy, rfl⟩ := List.mem_map.1 ha
       have hjk' : j = k := by omega
       have h5 := Hne'.out y (by rw [hjk']; exact hy)
       rw [e, hb] at h5
       simp at h5)
      go_wp2
      go_roundw
      case rel => exact ⟨k + 1, by omega, by go_num, by rw [Hstep.out, Hhe.out]; cases he <;> rfl, Hf1.out, Hn1.out, hB9⟩
      case measure => simp [intOf]; omega
  ·have Hfull : Hid (params.all (fun c => freeB c.name && kindB c) = true ∧ decide (params.map Co.name).Nodup = true ∧ atB part params = av) := Lhd (by
    have h1 := Hall.out
    have h2 := Hnd.out
    have h3 := Hav.out
    rw [List.take_of_length_le (by rw [Hl.out]; omega)] at h1 h2 h3
    exact ⟨by rw [List.all_eq_true]; exact h1, by simpa using h2, h3⟩)
   obtain ⟨es, Hes⟩ : ∃ b, Hid (noS src = b) := ⟨_, rfl⟩
   obtain ⟨q2, Hq2⟩ : ∃ b, Hid (freeB src = b) := ⟨_, rfl⟩
   obtain ⟨q1, Hq1⟩ : ∃ b, Hid (freeB name = b) := ⟨_, rfl⟩
   have HR : Hid (refH name src part fuel params = (!(!es && (!q2 || decide (0 < np))) && (q1 && decide (np ≤ 8) && av && decide (1 ≤ fuel) && decide (fuel ≤ 2000)))) := Lhd (by
    unfold refH; rw [Hfull.out.1, Hfull.out.2.1, Hfull.out.2.2, Hes.out, Hq2.out, Hq1.out, Hl.out]; simp)
   have hF1 := fun W => freeRef_any name W okn
   have hF2 := fun W => freeRef_any src W oks
   rw [Hq1.out] at hF1
   rw [Hq2.out] at hF2
   have HF1 := Lhd hF1
   have HF2 := Lhd hF2
   clear hF1 hF2
   have hes := Hes.out
   cases es
   ·have gs := str_some hes
    have gs2 : (src.toList == []) = false := by rw [strE, hes]
    have gs3 : (src.toList != []) = true := by show (!(src.toList == [])) = true; rw [gs2]; rfl
    clear hes
    cases q2
    ·skip
     go_wp2_with (first | (go_at_call 77; (with_reducible refine (HF2.out _).mono ?_); rintro e w8 ⟨rfl, hb8⟩; have hB8 := H27.out.trans (hb8.mono H27.out.size); obtain ⟨t0, t1, t2, t3, t4, t5, tl⟩ := HX.out w8 hB8) | (go_at_call 77; (with_reducible refine (HF1.out _).mono ?_); rintro e w9 ⟨rfl, hb9⟩; have hB9 : Below w2.heap.size w2 w9 := (by first | exact hB8.trans (hb9.mono hB8.size) | exact H27.out.trans (hb9.mono H27.out.size)); obtain ⟨s0, s1, s2, s3, s4, s5, sl⟩ := HX.out w9 hB9))
     go_ret
     exact ⟨ret_bool (by rw [HR.out]; simp [*]), by first | exact Hb2.out.trans (hB9.mono Hb2.out.size) | exact Hb2.out.trans (hB8.mono Hb2.out.size)⟩
    by_cases h0 : 0 < np
    ·have d0 : decide ((0 : Int) < (np : Int)) = true := by simp; omega
     go_wp2_with (first | (go_at_call 77; (with_reducible refine (HF2.out _).mono ?_); rintro e w8 ⟨rfl, hb8⟩; have hB8 := H27.out.trans (hb8.mono H27.out.size); obtain ⟨t0, t1, t2, t3, t4, t5, tl⟩ := HX.out w8 hB8) | (go_at_call 77; (with_reducible refine (HF1.out _).mono ?_); rintro e w9 ⟨rfl, hb9⟩; have hB9 : Below w2.heap.size w2 w9 := (by first | exact hB8.trans (hb9.mono hB8.size) | exact H27.out.trans (hb9.mono H27.out.size)); obtain ⟨s0, s1, s2, s3, s4, s5, sl⟩ := HX.out w9 hB9))
     go_ret
     exact ⟨ret_bool (by rw [HR.out]; simp [*]), by first | exact Hb2.out.trans (hB9.mono Hb2.out.size) | exact Hb2.out.trans (hB8.mono Hb2.out.size)⟩
    have d0 : decide ((0 : Int) < (np : Int)) = false := by simp; omega
    cases q1
    ·skip
     go_wp2_with (first | (go_at_call 77; (with_reducible refine (HF2.out _).mono ?_); rintro e w8 ⟨rfl, hb8⟩; have hB8 := H27.out.trans (hb8.mono H27.out.size); obtain ⟨t0, t1, t2, t3, t4, t5, tl⟩ := HX.out w8 hB8) | (go_at_call 77; (with_reducible refine (HF1.out _).mono ?_); rintro e w9 ⟨rfl, hb9⟩; have hB9 : Below w2.heap.size w2 w9 := (by first | exact hB8.trans (hb9.mono hB8.size) | exact H27.out.trans (hb9.mono H27.out.size)); obtain ⟨s0, s1, s2, s3, s4, s5, sl⟩ := HX.out w9 hB9))
     go_ret
     exact ⟨ret_bool (by rw [HR.out]; simp [*]), by first | exact Hb2.out.trans (hB9.mono Hb2.out.size) | exact Hb2.out.trans (hB8.mono Hb2.out.size)⟩
    have h8 : np ≤ 8 := by omega
    have d8 : decide ((np : Int) ≤ 8) = true := by simp; omega
    cases av
    ·skip
     go_wp2_with (first | (go_at_call 77; (with_reducible refine (HF2.out _).mono ?_); rintro e w8 ⟨rfl, hb8⟩; have hB8 := H27.out.trans (hb8.mono H27.out.size); obtain ⟨t0, t1, t2, t3, t4, t5, tl⟩ := HX.out w8 hB8) | (go_at_call 77; (with_reducible refine (HF1.out _).mono ?_); rintro e w9 ⟨rfl, hb9⟩; have hB9 : Below w2.heap.size w2 w9 := (by first | exact hB8.trans (hb9.mono hB8.size) | exact H27.out.trans (hb9.mono H27.out.size)); obtain ⟨s0, s1, s2, s3, s4, s5, sl⟩ := HX.out w9 hB9))
     go_ret
     exact ⟨ret_bool (by rw [HR.out]; simp [*]), by first | exact Hb2.out.trans (hB9.mono Hb2.out.size) | exact Hb2.out.trans (hB8.mono Hb2.out.size)⟩
    by_cases f1 : 1 ≤ fuel
    rotate_left
    ·have e1 : decide (1 ≤ fuel) = false := by simpa using f1
     go_wp2_with (first | (go_at_call 77; (with_reducible refine (HF2.out _).mono ?_); rintro e w8 ⟨rfl, hb8⟩; have hB8 := H27.out.trans (hb8.mono H27.out.size); obtain ⟨t0, t1, t2, t3, t4, t5, tl⟩ := HX.out w8 hB8) | (go_at_call 77; (with_reducible refine (HF1.out _).mono ?_); rintro e w9 ⟨rfl, hb9⟩; have hB9 : Below w2.heap.size w2 w9 := (by first | exact hB8.trans (hb9.mono hB8.size) | exact H27.out.trans (hb9.mono H27.out.size)); obtain ⟨s0, s1, s2, s3, s4, s5, sl⟩ := HX.out w9 hB9))
     go_ret
     exact ⟨ret_bool (by rw [HR.out]; simp [*]), by first | exact Hb2.out.trans (hB9.mono Hb2.out.size) | exact Hb2.out.trans (hB8.mono Hb2.out.size)⟩
    have e1 : decide (1 ≤ fuel) = true := by simpa using f1
    by_cases f2 : fuel ≤ 2000
    ·have e2 : decide (fuel ≤ 2000) = true := by simpa using f2
     go_wp2_with (first | (go_at_call 77; (with_reducible refine (HF2.out _).mono ?_); rintro e w8 ⟨rfl, hb8⟩; have hB8 := H27.out.trans (hb8.mono H27.out.size); obtain ⟨t0, t1, t2, t3, t4, t5, tl⟩ := HX.out w8 hB8) | (go_at_call 77; (with_reducible refine (HF1.out _).mono ?_); rintro e w9 ⟨rfl, hb9⟩; have hB9 : Below w2.heap.size w2 w9 := (by first | exact hB8.trans (hb9.mono hB8.size) | exact H27.out.trans (hb9.mono H27.out.size)); obtain ⟨s0, s1, s2, s3, s4, s5, sl⟩ := HX.out w9 hB9))
     go_ret
     exact ⟨ret_bool (by rw [HR.out]; simp [*]), by first | exact Hb2.out.trans (hB9.mono Hb2.out.size) | exact Hb2.out.trans (hB8.mono Hb2.out.size)⟩
    ·have e2 : decide (fuel ≤ 2000) = false := by simpa using f2
     go_wp2_with (first | (go_at_call 77; (with_reducible refine (HF2.out _).mono ?_); rintro e w8 ⟨rfl, hb8⟩; have hB8 := H27.out.trans (hb8.mono H27.out.size); obtain ⟨t0, t1, t2, t3, t4, t5, tl⟩ := HX.out w8 hB8) | (go_at_call 77; (with_reducible refine (HF1.out _).mono ?_); rintro e w9 ⟨rfl, hb9⟩; have hB9 : Below w2.heap.size w2 w9 := (by first | exact hB8.trans (hb9.mono hB8.size) | exact H27.out.trans (hb9.mono H27.out.size)); obtain ⟨s0, s1, s2, s3, s4, s5, sl⟩ := HX.out w9 hB9))
     go_ret
     exact ⟨ret_bool (by rw [HR.out]; simp [*]), by first | exact Hb2.out.trans (hB9.mono Hb2.out.size) | exact Hb2.out.trans (hB8.mono Hb2.out.size)⟩
   ·have gs := str_empty hes
    clear hes
    cases q1
    ·skip
     go_wp2_with (first | (go_at_call 77; (with_reducible refine (HF2.out _).mono ?_); rintro e w8 ⟨rfl, hb8⟩; have hB8 := H27.out.trans (hb8.mono H27.out.size); obtain ⟨t0, t1, t2, t3, t4, t5, tl⟩ := HX.out w8 hB8) | (go_at_call 77; (with_reducible refine (HF1.out _).mono ?_); rintro e w9 ⟨rfl, hb9⟩; have hB9 : Below w2.heap.size w2 w9 := (by first | exact hB8.trans (hb9.mono hB8.size) | exact H27.out.trans (hb9.mono H27.out.size)); obtain ⟨s0, s1, s2, s3, s4, s5, sl⟩ := HX.out w9 hB9))
     go_ret
     exact ⟨ret_bool (by rw [HR.out]; simp [*]), by first | exact Hb2.out.trans (hB9.mono Hb2.out.size) | exact Hb2.out.trans (hB8.mono Hb2.out.size)⟩
    by_cases h8 : np ≤ 8
    rotate_left
    ·have d8 : decide ((np : Int) ≤ 8) = false := by simp; omega
     go_wp2_with (first | (go_at_call 77; (with_reducible refine (HF2.out _).mono ?_); rintro e w8 ⟨rfl, hb8⟩; have hB8 := H27.out.trans (hb8.mono H27.out.size); obtain ⟨t0, t1, t2, t3, t4, t5, tl⟩ := HX.out w8 hB8) | (go_at_call 77; (with_reducible refine (HF1.out _).mono ?_); rintro e w9 ⟨rfl, hb9⟩; have hB9 : Below w2.heap.size w2 w9 := (by first | exact hB8.trans (hb9.mono hB8.size) | exact H27.out.trans (hb9.mono H27.out.size)); obtain ⟨s0, s1, s2, s3, s4, s5, sl⟩ := HX.out w9 hB9))
     go_ret
     exact ⟨ret_bool (by rw [HR.out]; simp [*]), by first | exact Hb2.out.trans (hB9.mono Hb2.out.size) | exact Hb2.out.trans (hB8.mono Hb2.out.size)⟩
    have d8 : decide ((np : Int) ≤ 8) = true := by simp; omega
    cases av
    ·skip
     go_wp2_with (first | (go_at_call 77; (with_reducible refine (HF2.out _).mono ?_); rintro e w8 ⟨rfl, hb8⟩; have hB8 := H27.out.trans (hb8.mono H27.out.size); obtain ⟨t0, t1, t2, t3, t4, t5, tl⟩ := HX.out w8 hB8) | (go_at_call 77; (with_reducible refine (HF1.out _).mono ?_); rintro e w9 ⟨rfl, hb9⟩; have hB9 : Below w2.heap.size w2 w9 := (by first | exact hB8.trans (hb9.mono hB8.size) | exact H27.out.trans (hb9.mono H27.out.size)); obtain ⟨s0, s1, s2, s3, s4, s5, sl⟩ := HX.out w9 hB9))
     go_ret
     exact ⟨ret_bool (by rw [HR.out]; simp [*]), by first | exact Hb2.out.trans (hB9.mono Hb2.out.size) | exact Hb2.out.trans (hB8.mono Hb2.out.size)⟩
    by_cases f1 : 1 ≤ fuel
    rotate_left
    ·have e1 : decide (1 ≤ fuel) = false := by simpa using f1
     go_wp2_with (first | (go_at_call 77; (with_reducible refine (HF2.out _).mono ?_); rintro e w8 ⟨rfl, hb8⟩; have hB8 := H27.out.trans (hb8.mono H27.out.size); obtain ⟨t0, t1, t2, t3, t4, t5, tl⟩ := HX.out w8 hB8) | (go_at_call 77; (with_reducible refine (HF1.out _).mono ?_); rintro e w9 ⟨rfl, hb9⟩; have hB9 : Below w2.heap.size w2 w9 := (by first | exact hB8.trans (hb9.mono hB8.size) | exact H27.out.trans (hb9.mono H27.out.size)); obtain ⟨s0, s1, s2, s3, s4, s5, sl⟩ := HX.out w9 hB9))
     go_ret
     exact ⟨ret_bool (by rw [HR.out]; simp [*]), by first | exact Hb2.out.trans (hB9.mono Hb2.out.size) | exact Hb2.out.trans (hB8.mono Hb2.out.size)⟩
    have e1 : decide (1 ≤ fuel) = true := by simpa using f1
    by_cases f2 : fuel ≤ 2000
    ·have e2 : decide (fuel ≤ 2000) = true := by simpa using f2
     go_wp2_with (first | (go_at_call 77; (with_reducible refine (HF2.out _).mono ?_); rintro e w8 ⟨rfl, hb8⟩; have hB8 := H27.out.trans (hb8.mono H27.out.size); obtain ⟨t0, t1, t2, t3, t4, t5, tl⟩ := HX.out w8 hB8) | (go_at_call 77; (with_reducible refine (HF1.out _).mono ?_); rintro e w9 ⟨rfl, hb9⟩; have hB9 : Below w2.heap.size w2 w9 := (by first | exact hB8.trans (hb9.mono hB8.size) | exact H27.out.trans (hb9.mono H27.out.size)); obtain ⟨s0, s1, s2, s3, s4, s5, sl⟩ := HX.out w9 hB9))
     go_ret
     exact ⟨ret_bool (by rw [HR.out]; simp [*]), by first | exact Hb2.out.trans (hB9.mono Hb2.out.size) | exact Hb2.out.trans (hB8.mono Hb2.out.size)⟩
    ·have e2 : decide (fuel ≤ 2000) = false := by simpa using f2
     go_wp2_with (first | (go_at_call 77; (with_reducible refine (HF2.out _).mono ?_); rintro e w8 ⟨rfl, hb8⟩; have hB8 := H27.out.trans (hb8.mono H27.out.size); obtain ⟨t0, t1, t2, t3, t4, t5, tl⟩ := HX.out w8 hB8) | (go_at_call 77; (with_reducible refine (HF1.out _).mono ?_); rintro e w9 ⟨rfl, hb9⟩; have hB9 : Below w2.heap.size w2 w9 := (by first | exact hB8.trans (hb9.mono hB8.size) | exact H27.out.trans (hb9.mono H27.out.size)); obtain ⟨s0, s1, s2, s3, s4, s5, sl⟩ := HX.out w9 hB9))
     go_ret
     exact ⟨ret_bool (by rw [HR.out]; simp [*]), by first | exact Hb2.out.trans (hB9.mono Hb2.out.size) | exact Hb2.out.trans (hB8.mono Hb2.out.size)⟩
end Go.Proofs.YtmgldjpdhpopnaaGreatDoor
