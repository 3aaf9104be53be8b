/- Parts of this proof, one behind the other: RefQ, RefU, RefV, RefV1, RefY. -/
import Derived.Test.YtgihhkfppnhdpaaSp19
import Derived.Test.YtgihhkfppnhdpaaSp20
import Derived.Test.YtgihhkfppnhdpaaSp8
import Derived.Test.YtgihhkfppnhdpaaSp16
import Derived.Test.YtgihhkfppnhdpaaSp21
import Derived.Deep.DeepCutAuto
import Derived.Deep.CutBlock
import Derived.Outline
import Derived.Test.YtgihhkfppnhdpaaSp10
import Derived.Test.YtgihhkfppnhdpaaSp11
import Derived.Sort.Walk0
namespace Go.Proofs.Ytgihhkfppnhdpaa
open Go.RowKit Go.Afx

/-- what 'Of' hands back -/
def GivesOf (w : World) (e : Ending) (w' : World) : Prop :=
  ∃ (nm sr pt : ByteArray) (fu : Int) (Ap : Option Addr) (np cp : Nat) (Ab : Option Addr) (nb cb : Nat) (n d : Int) (r ok : Bool),
    e = .returned (.tuple #[.agg #[.string nm, .string sr, .string pt, .int .i64 fu, .slice Ap np cp, .slice Ab nb cb], .int .i64 n, .int .i64 d, .bool r, .bool ok]) ∧ Below w.heap.size w w' ∧
    (ok = true → ∃ p : Pr, PrAt (fun b => b < w'.heap.size) 101 w' [.string nm, .string sr, .string pt, .int .i64 fu, .slice Ap np cp, .slice Ab nb cb] p ∧ (n, d) = tellP p ∧ r = rightB 101 p ∧ p.params.length ≤ 12 ∧ p.body.length ≤ 12)
def MuchQ (np nk : Nat) (w1 : World) (u : Value) (W : World) : Prop := ∃ b : Bool, u = .bool b ∧ (b = false → np ≤ 12 ∧ nk ≤ 12) ∧ w1 = W
theorem sayBox {w : World} {g : Nat} {T : TypeId} {v0 v1 v2 v3 v4 v5 v6 v7 : Value} (h : IsBlk w g T #[v0, v1, v2, v3, v4, v5, v6, v7]) :
    w.cell? ⟨g, 0, none⟩ = some v0 ∧ w.cell? ⟨g, 1, none⟩ = some v1 ∧ w.cell? ⟨g, 2, none⟩ = some v2 ∧ w.cell? ⟨g, 3, none⟩ = some v3 ∧ w.cell? ⟨g, 4, none⟩ = some v4 ∧ w.cell? ⟨g, 5, none⟩ = some v5 ∧ w.cell? ⟨g, 6, none⟩ = some v6 ∧ w.cell? ⟨g, 7, none⟩ = some v7 ∧ g < w.heap.size := by
  have h0 := h.cell 0; have h1 := h.cell 1; have h2 := h.cell 2; have h3 := h.cell 3; have h4 := h.cell 4; have h5 := h.cell 5; have h6 := h.cell 6; have h7 := h.cell 7
  simp at h0 h1 h2 h3 h4 h5 h6 h7
  exact ⟨h0, h1, h2, h3, h4, h5, h6, h7, h.lt⟩
/-- what stands while a procedure's body is laid -/
structure OfIn (w w4 wr : World) (name src part : ByteArray) (fuel : Int) (Ap : Option Addr) (np cp : Nat) (body : List St) (Bb : Option Addr) (db : Nat) : Prop where
  box : IsBlk wr (w.heap.size + 1 + 1) 34 #[.string name, .string src, .string part, .int .i64 fuel, .slice Ap np cp, .slice Bb body.length db]
  bod : OwnK w4.heap.size wr 52 8 (StAt (fun b => b < w4.heap.size ∧ b ≠ w.heap.size + 1 + 1 ∧ b ≠ w.heap.size + 1) 101 w4) body Bb db
  but : But (fun b => b = w.heap.size + 1 + 1) w4 wr
theorem OfIn.start {w w4 : World} {name src part : ByteArray} {fuel : Int} {Ap : Option Addr} {np cp : Nat} (h : IsBlk w4 (w.heap.size + 1 + 1) 34 #[.string name, .string src, .string part, .int .i64 fuel, .slice Ap np cp, .slice none 0 0]) : OfIn w w4 w4 name src part fuel Ap np cp [] none 0 :=
  ⟨h, OwnK.nil_ _ _ _ _ _, But.refl _ _⟩
theorem OfIn.drewN {w w4 wr : World} {name src part : ByteArray} {fuel : Int} {Ap : Option Addr} {np cp : Nat} {body : List St} {Bb : Option Addr} {db : Nat} (h : OfIn w w4 wr name src part fuel Ap np cp body Bb db) (a : Nat) : OfIn w w4 (wr.drewN a) name src part fuel Ap np cp body Bb db := ⟨h.box, h.bod, h.but.drewN a⟩
theorem OfIn.add {w w4 wr w3 : World} {name src part : ByteArray} {fuel : Int} {Ap : Option Addr} {np cp mB : Nat} {body : List St} {Bb A3 : Option Addr} {db c3 : Nat} {rows : List (List Value)} {re : List Value} {a : St} {o : Obj} (h : OfIn w w4 wr name src part fuel Ap np cp body Bb db) (hm : body.length = mB) (hg : w.heap.size + 1 + 1 < w4.heap.size)
    (hrl : rows.length = body.length) (hrw : ∀ r ∈ rows, r.length = 8) (hrP : ∀ (j : Nat) (r : List Value) (e : St), rows[j]? = some r → body[j]? = some e → StAt (fun b => b < w4.heap.size ∧ b ≠ w.heap.size + 1 + 1 ∧ b ≠ w.heap.size + 1) 101 w4 r e) (hre : re.length = 8) (hra : StAt (fun b => b < w4.heap.size ∧ b ≠ w.heap.size + 1 + 1 ∧ b ≠ w.heap.size + 1) 101 w4 re a)
    (hown3 : w3.ownsRow w4.heap.size 52 8 (.slice A3 (mB + 1) c3) (mB + 1) (rows ++ [re]).flatten) (hbut3 : But (fun k => Bb.map (·.block) = some k) ((wr.drew).alloc o) w3) (hf3 : ∀ a2, A3 = some a2 → Bb = some a2 ∨ ((wr.drew).alloc o).heap.size ≤ a2.block) :
    OfIn w w4 (w3.setCell ⟨w.heap.size + 1 + 1, 5, none⟩ (.slice A3 (mB + 1) c3)) name src part fuel Ap np cp (body ++ [a]) A3 c3 := by
  have hl : (body ++ [a]).length = mB + 1 := by simp [hm]
  have hz := h.but.size
  have hlo := h.bod.lo
  have hg3 : ¬ Bb.map (·.block) = some (w.heap.size + 1 + 1) := fun e => by
    cases Bb with
    | none => cases e
    | some a1 => have := (hlo a1 rfl).1; have e : a1.block = w.heap.size + 1 + 1 := by simpa using e
                 omega
  have hgb : But (fun b => Bb.map (·.block) = some b ∨ b = w.heap.size + 1 + 1) wr (w3.setCell ⟨w.heap.size + 1 + 1, 5, none⟩ (.slice A3 (mB + 1) c3)) := (grown_apart (w2 := w4) (j := 5) (u := .slice A3 (mB + 1) c3) (B := none) hlo (fun b hb => by cases hb) (.inl (apart_none _)) hg hbut3 hf3).1
  have hbx : IsBlk (w3.setCell ⟨w.heap.size + 1 + 1, 5, none⟩ (.slice A3 (mB + 1) c3)) (w.heap.size + 1 + 1) 34 _ := (((show IsBlk wr.drew (w.heap.size + 1 + 1) _ _ from h.box).alloc o).as_was (hbut3.block (w.heap.size + 1 + 1) (by have := h.box.lt; simp; omega) hg3)).stored 5 (.slice A3 (mB + 1) c3)
  have hown : OwnK w4.heap.size (w3.setCell ⟨w.heap.size + 1 + 1, 5, none⟩ (.slice A3 (mB + 1) c3)) 52 8 (StAt (fun b => b < w4.heap.size ∧ b ≠ w.heap.size + 1 + 1 ∧ b ≠ w.heap.size + 1) 101 w4) (body ++ [a]) A3 c3 :=
    (OwnK.add hrl hrw hrP hre hra hm hown3).keep ((But.refl (fun b => b = w.heap.size + 1 + 1) w3).setCell (p := ⟨w.heap.size + 1 + 1, 5, none⟩) (.inl rfl) _) fun a3 ha e => by
      rcases hf3 a3 ha with h1 | h1
      · have := (hlo a3 h1).1; omega
      · simp at h1; omega
  have hbut : But (fun b => b = w.heap.size + 1 + 1) w4 (w3.setCell ⟨w.heap.size + 1 + 1, 5, none⟩ (.slice A3 (mB + 1) c3)) := h.but.trans hgb fun i hi => by
    rcases hi with hi | hi
    · cases Bb with
      | none => cases hi
      | some a1 => have := (hlo a1 rfl).1; have e : a1.block = i := by simpa using hi
                   exact .inr (by omega)
    · exact .inl hi
  exact ⟨by rw [hl]; exact hbx, hown, hbut⟩
def OfEnd (w w4 : World) (name src part : ByteArray) (fuel : Int) (Ap : Option Addr) (np cp : Nat) (a9 a10 : Value) (wr : World) : Prop :=
  ∃ (body : List St) (Bb : Option Addr) (db : Nat), body.length ≤ 12 ∧ a9 = .int .i64 (sumT (body.map tellS)) ∧ a10 = .int .i64 (top0 (body.map tellS)) ∧ OfIn w w4 wr name src part fuel Ap np cp body Bb db
def OfRel (w w4 : World) (name src part : ByteArray) (fuel : Int) (Ap : Option Addr) (np cp nk : Nat) (a9 a10 a11 : Value) (wr : World) : Prop :=
  ∃ (q : Nat) (body : List St) (Bb : Option Addr) (db : Nat), q ≤ nk ∧ body.length ≤ q ∧ a9 = .int .i64 (sumT (body.map tellS)) ∧ a10 = .int .i64 (top0 (body.map tellS)) ∧ a11 = .int .i64 q ∧ OfIn w w4 wr name src part fuel Ap np cp body Bb db

theorem LfAt.below {F : Nat → Prop} {w w' : World} {r : List Value} {x : Lf} (h : LfAt F w r x) (hb : Below w.heap.size w w') : LfAt F w' r x := by
  obtain ⟨h1, h2, h3, h4, h5, A, m, c, hr, hl⟩ := h
  exact ⟨h1, h2, h3, h4, h5, A, m, c, hr, hl.below hb⟩
theorem KnAt.below {F : Nat → Prop} {w w' : World} {r : List Value} {x : Kn} (h : KnAt F w r x) (hb : Below w.heap.size w w') : KnAt F w' r x := by
  obtain ⟨h1, h2, h3, h4, Ac, nc, cc, Ae, ne, ce, Ab, nb, cb, Al, nl, cl, hr, k1, k2, k3, k4⟩ := h
  exact ⟨h1, h2, h3, h4, Ac, nc, cc, Ae, ne, ce, Ab, nb, cb, Al, nl, cl, hr, k1.below hb, k2.below hb, k3.below hb, k4.below hb⟩

set_option maxRecDepth 100000 in
set_option maxHeartbeats 4000000 in
theorem of_any (HRB : ∀ F : Nat → Prop, RBuiltS F 101) (F : Nat → Prop) (name src part : ByteArray) (fuel : Int) (Ap : Option Addr) (np cp : Nat) (params : List Co) (A A' : Option Addr) (n c n' c' : Nat) (xs : List Lf) (ys : List Kn) (Ak : Option Addr) (nk ck : Nat) (ks : List Int) (w : World)
    (hp : LsAt F w 2 CoRow Ap np cp params) (h1 : LsAt F w 6 (LfAt F w) A n c xs) (h2 : LsAt F w 8 (KnAt F w) A' n' c' ys) (hks : LsAt F w 1 IRow Ak nk ck ks) (hF : ∀ k, F k → k < w.heap.size) (okn : okS name) (oks : okS src) (okp : okS part) (okf : okI fuel) :
    Calls Try.prog 11 #[.agg #[.string name, .string src, .string part, .int .i64 fuel, .slice Ap np cp, .slice A n c, .slice A' n' c', .slice Ak nk ck]] w (GivesOf w) := by
  have hnp := hp.n_le
  have hnk := hks.n_le
  obtain ⟨w1, Hw1⟩ : ∃ w1, Hid (w1 = ((w.alloc (.cells #[.string name, .string src, .string part, .int .i64 fuel, .slice Ap np cp, .slice A n c, .slice A' n' c', .slice Ak nk ck] 31)).alloc (.cells #[.string { data := #[] }, .string { data := #[] }, .string { data := #[] }, .int .i64 0, .slice none 0 0, .slice none 0 0] 34)).alloc (.cells #[.string name, .string src, .string part, .int .i64 fuel, .slice Ap np cp, .slice none 0 0] 34)) := ⟨_, rfl⟩
  have hb1 : Below w.heap.size w w1 := by rw [Hw1.out]; exact (((Below.refl _ _).alloc (Nat.le_refl _) _).alloc (by simp) _).alloc (by simp; omega) _
  have hz1 : w1.heap.size = w.heap.size + 3 := by rw [Hw1.out]; simp
  have hs1 : IsBlk w1 w.heap.size 31 #[.string name, .string src, .string part, .int .i64 fuel, .slice Ap np cp, .slice A n c, .slice A' n' c', .slice Ak nk ck] := by rw [Hw1.out]; exact ((IsBlk.laid _ _ _).alloc _).alloc _
  have hr1 : IsBlk w1 (w.heap.size + 1) 34 #[.string { data := #[] }, .string { data := #[] }, .string { data := #[] }, .int .i64 0, .slice none 0 0, .slice none 0 0] := by rw [Hw1.out]; exact (laid_at (by simp) _ _).alloc _
  have hq1 : IsBlk w1 (w.heap.size + 1 + 1) 34 #[.string name, .string src, .string part, .int .i64 fuel, .slice Ap np cp, .slice none 0 0] := by rw [Hw1.out]; exact laid_at (by simp) _ _
  have HG := Lib.hid (fun W (hW : Below w.heap.size w W) => great_any F A A' n c n' c' xs ys W (h1.conv (Kept.of_below hW) (fun _ _ _ h => h) (fun r x _ hx => LfAt.below hx hW)) (h2.conv (Kept.of_below hW) (fun _ _ _ h => h) (fun r x _ hx => KnAt.below hx hW)))
  have HBd := Lib.hid (fun W (hW : Below w.heap.size w W) => build_any F A A' n c n' c' xs ys W (h1.conv (Kept.of_below hW) (fun _ _ _ h => h) (fun r x _ hx => LfAt.below hx hW)) (h2.conv (Kept.of_below hW) (fun _ _ _ h => h) (fun r x _ hx => KnAt.below hx hW)) (fun k hk => Nat.lt_of_lt_of_le (hF k hk) hW.size))
  have Hp := Lib.hid hp
  have H1 := Lib.hid h1
  have H2 := Lib.hid h2
  have Hks := Lib.hid hks
  have Hs1 := Lib.hid hs1
  have Hr1 := Lib.hid hr1
  have Hq1 := Lib.hid hq1
  have Hb1 := Lib.hid hb1
  obtain ⟨s0, s1, s2, s3, s4, s5, s6, s7, sl⟩ := sayBox hs1
  obtain ⟨p0, p1, p2, p3, p4, p5, pl⟩ := treeBox hq1
  clear hp h1 h2 hks hs1 hr1 hq1 hb1
  unfold okS at okn oks okp
  go_enter Try.func11, Try.ntmps11
  go_upto_region 2 with (fail)
  rw [← Hw1.out]
  go_cut [58] (fun u W => MuchQ np nk w1 u W)
  case first =>
    by_cases hnp : np ≤ 12
    · by_cases hnk : nk ≤ 12
      · have HR : Hid (np ≤ 12 ∧ nk ≤ 12) := Lib.hid ⟨hnp, hnk⟩
        have e1 : ¬ (12 : Int) < (np : Int) := by omega
        have e2 : ¬ (12 : Int) < (nk : Int) := by omega
        go_wp2_with (go_at_call 25; refine (HG.out _ Hb1.out).mono ?_; rintro e w' ⟨b, rfl, rfl⟩; cases b)
        all_goals
          go_meet
          exact ⟨_, rfl, fun _ => HR.out, rfl⟩
      · have e1 : ¬ (12 : Int) < (np : Int) := by omega
        have e2 : (12 : Int) < (nk : Int) := by omega
        go_wp2_with (go_at_call 25; refine (HG.out _ Hb1.out).mono ?_; rintro e w' ⟨b, rfl, rfl⟩; cases b)
        all_goals
          go_meet
          exact ⟨_, rfl, (fun h => by cases h), rfl⟩
    · have e1 : (12 : Int) < (np : Int) := by omega
      go_wp2_with (go_at_call 25; refine (HG.out _ Hb1.out).mono ?_; rintro e w' ⟨b, rfl, rfl⟩; cases b)
      all_goals
        go_meet
        exact ⟨_, rfl, (fun h => by cases h), rfl⟩
  case rest =>
    obtain ⟨b, rfl, hbd, rfl⟩ := hcut
    obtain ⟨r0, r1, r2, r3, r4, r5, rl⟩ := treeBox Hr1.out
    have rf := Hr1.out.frozen
    cases b
    rotate_left
    · clear hbd
      go_wp2
      refine bodyPost_ret (v := .tuple #[.agg #[.string name, .string src, .string part, .int .i64 fuel, .slice Ap np cp, .slice none 0 0], .int .i64 0, .int .i64 0, .bool false, .bool false]) (by simp [results, Try.results11, go_sem, r0, r1, r2, r3, r4, r5]) rfl ⟨name, src, part, fuel, Ap, np, cp, none, 0, 0, 0, 0, false, false, rfl, ?_, fun h => by cases h⟩
      exact Hb1.out.trans ((But.below' (but_six w1 (w.heap.size + 1) _ _ _ _ _ _) Hb1.out.size (fun b e => by rw [e]; omega)))
    · obtain ⟨hnp12, hnk12⟩ := hbd rfl
      clear hbd r0 r1 r2 r3 r4 r5 rl rf
      go_upto_region 5 with (go_at_call 26; refine (HBd.out _ Hb1.out).mono ?_; rintro e w3 ⟨row, es, ss, rfl, ⟨A0, c0, A1, c1, A2, c2, A3, c3, A4, c4, A5, c5, rfl, te, tn, td, ts, tm, tdp, hes50, hss50⟩, hb3⟩; clear te tn td)
      obtain ⟨w4, Hw4⟩ : ∃ w4, Hid (w4 = w3.alloc (.cells #[.slice A0 es.length c0, .slice A1 es.length c1, .slice A2 es.length c2, .slice A3 ss.length c3, .slice A4 ss.length c4, .slice A5 ss.length c5] 58)) := ⟨_, rfl⟩
      rw [← Hw4.out]
      have hb34 : Below w3.heap.size w3 w4 := by rw [Hw4.out]; exact (Below.refl _ _).alloc (Nat.le_refl _) _
      have hz4 : w4.heap.size = w3.heap.size + 1 := by rw [Hw4.out]; simp
      have ht4 : IsBlk w4 w3.heap.size 58 #[.slice A0 es.length c0, .slice A1 es.length c1, .slice A2 es.length c2, .slice A3 ss.length c3, .slice A4 ss.length c4, .slice A5 ss.length c5] := by rw [Hw4.out]; exact IsBlk.laid _ _ _
      have hb14 : Below w1.heap.size w1 w4 := hb3.trans (hb34.mono hb3.size)
      have Hq4 := Lib.hid (Hq1.out.as_was (hb14.block _ Hq1.out.lt))
      have Hs4 := Lib.hid (Hs1.out.as_was (hb14.block _ Hs1.out.lt))
      have Hr4 := Lib.hid (Hr1.out.as_was (hb14.block _ Hr1.out.lt))
      have hz34 := hb3.size
      have hFQ : ∀ b, (b < w3.heap.size ∧ (b < w1.heap.size → F b)) → (b < w4.heap.size ∧ b ≠ w.heap.size + 1 + 1 ∧ b ≠ w.heap.size + 1) := fun b hb => ⟨by omega, (fun e => by
        have := hF b (hb.2 (by omega))
        omega), (fun e => by
        have := hF b (hb.2 (by omega))
        omega)⟩
      have Hts := Lib.hid (StsAt.conv hFQ (Kept.of_below hb34) (Nat.le_refl _) ts)
      have Htm := Lib.hid (LsAt.conv (F' := fun b => b < w4.heap.size ∧ b ≠ w.heap.size + 1 + 1 ∧ b ≠ w.heap.size + 1) tm (Kept.of_below hb34) (fun a _ _ h => hFQ _ h) (fun _ _ _ h => h))
      have Htd := Lib.hid (LsAt.conv (F' := fun b => b < w4.heap.size ∧ b ≠ w.heap.size + 1 + 1 ∧ b ≠ w.heap.size + 1) tdp (Kept.of_below hb34) (fun a _ _ h => hFQ _ h) (fun _ _ _ h => h))
      have Hb04 := Lib.hid (Hb1.out.trans (hb14.mono Hb1.out.size))
      have Hk4 := Lib.hid (Hks.out.below (Hb1.out.trans (hb14.mono Hb1.out.size)))
      generalize hm : ss.length = m at *
      have Hm := Lib.hid hm
      generalize es.length = nes at *
      have Ht4 := Lib.hid ht4
      clear hm ts tm tdp ht4 hFQ s0 s1 s2 s3 s4 s5 s6 s7 sl p0 p1 p2 p3 p4 p5 pl
      have HE4 := Lib.hid (OfIn.start (w := w) (src := src) (part := part) (fuel := fuel) Hq4.out)
      have HX4 := Lib.hid (fun W (hW : But (fun b => b = w.heap.size + 1 + 1) w4 W) => And.intro (sayBox (Hs4.out.as_was (hW.block _ Hs4.out.lt (by omega)))) (treeBox (Ht4.out.as_was (hW.block _ Ht4.out.lt (by omega)))))
      go_upto_block 0 with (fail)
      go_cut [9, 10] (fun u9 u10 W => OfEnd w w4 name src part fuel Ap np cp u9 u10 W)
      case first =>
        go_wp2_with fail
        go_loopw [9, 10, 11] (fun a9 a10 a11 wr => OfRel w w4 name src part fuel Ap np cp nk a9 a10 a11 wr) (fun _ _ i _ => nk - (intOf i).toNat)
        case atStart => exact ⟨0, [], _, _, Nat.zero_le _, Nat.le_refl _, rfl, rfl, rfl, HE4.out⟩
        case round =>
          obtain ⟨q, body, Bb, db, hq, hal, rfl, rfl, rfl, hE⟩ := hrel
          have HE := Lib.hid hE
          have hsb := sumT_bd (l := body.map tellS) (fun t ht => by obtain ⟨a, _, rfl⟩ := List.mem_map.1 ht; exact tellS_ok a)
          have htb := top0_bd (l := body.map tellS) (fun t ht => by obtain ⟨a, _, rfl⟩ := List.mem_map.1 ht; exact tellS_ok a)
          rw [List.length_map] at hsb
          obtain ⟨hsum, htop, hs2, ht2, Hsum, Htop⟩ : ∃ hsum htop : Int, (0 ≤ hsum ∧ hsum ≤ 12000) ∧ (0 ≤ htop ∧ htop ≤ 1000) ∧ Hid (sumT (body.map tellS) = hsum) ∧ Hid (top0 (body.map tellS) = htop) := ⟨_, _, by omega, htb, rfl, rfl⟩
          obtain ⟨hs0, hs1⟩ := hs2
          obtain ⟨ht0, ht1⟩ := ht2
          clear hsb htb
          rw [Hsum.out, Htop.out]
          generalize hmb : body.length = mB at *
          have Hmb := Lib.hid hmb
          clear hmb hE
          obtain ⟨⟨s0, s1, s2, s3, s4, s5, s6, s7, sl⟩, t0, t1, t2, t3, t4, t5, tl⟩ := HX4.out wr HE.out.but
          by_cases hlt : q < nk ∧ 0 < m
          · obtain ⟨hqk, hm0⟩ := hlt
            have d1 : decide ((q : Int) < (nk : Int)) = true := by simp; omega
            have d2 : decide ((0 : Int) < (m : Int)) = true := by simp; omega
            obtain ⟨bk, ok, rk, v, rfl, hbk, _, _, _, hv, hcv⟩ := (Hk4.out.kept (Kept.of_but HE.out.but (fun b hb => by have := hF b hb; omega))).get hqk
            obtain ⟨rfl, okv⟩ := hv
            have hcv := hcv 0 _ rfl
            rw [Nat.mul_one, Nat.add_zero] at hcv
            go_wp2
            go_quiet (fail)
            go_wp2
            rw [pick_int v m hm0 (by omega)]
            obtain ⟨j, Hj⟩ : ∃ j, Hid (pickN v m = j) := ⟨_, rfl⟩
            have hjm : j < m := by rw [← Hj.out]; exact pickN_lt v m hm0
            rw [Hj.out]
            have HEq := Lib.hid (HE.out.drewN nq)
            obtain ⟨b0, o0, re, a, rfl, hb0, hF0, haj, hrl2, hpa, hca⟩ := LsAt.get Hts.out (k := j) hjm
            obtain ⟨p1, p2, p3, p4, Ac2, nc2, cc2, Ae2, ne2, ce2, Ab2, nb2, cb2, Al2, nl2, cl2, rfl, h6⟩ := hpa
            have Hpa : Hid (StAt (fun b => b < w4.heap.size ∧ b ≠ w.heap.size + 1 + 1 ∧ b ≠ w.heap.size + 1) 101 w4 [.int .i64 a.op, .string a.name, .string a.src, .int .i64 a.n, .slice Ac2 nc2 cc2, .slice Ae2 ne2 ce2, .slice Ab2 nb2 cb2, .slice Al2 nl2 cl2] a) := Lib.hid ⟨p1, p2, p3, p4, Ac2, nc2, cc2, Ae2, ne2, ce2, Ab2, nb2, cb2, Al2, nl2, cl2, rfl, h6⟩
            clear h6
            obtain ⟨b1, oo1, r1, y1, rfl, hb1', hF1, hy1, _, hr1, hcn⟩ := Htm.out.get (k := j) hjm
            obtain ⟨b2, oo2, r2, y2, rfl, hb2', hF2, hy2, _, hr2, hcd⟩ := Htd.out.get (k := j) hjm
            obtain ⟨rfl, _⟩ := hr1
            obtain ⟨rfl, _⟩ := hr2
            rw [List.getElem?_map, haj] at hy1 hy2
            injection hy1 with hy1
            injection hy2 with hy2
            subst hy1 hy2
            have hcn := hcn 0 _ rfl
            have hcd := hcd 0 _ rfl
            rw [Nat.mul_one, Nat.add_zero] at hcn hcd
            have hR := fun b (hb : b < w4.heap.size ∧ b ≠ w.heap.size + 1 + 1 ∧ b ≠ w.heap.size + 1) i => World.cell?_of_block (a := ⟨b, i, none⟩) (HE.out.but.block b hb.1 hb.2.1)
            have e0 : (wr.drewN nq).cell? ⟨b0, o0 + j * 8, none⟩ = some (.int .i64 a.op) := by have h := (hR b0 hF0 _).trans (hca 0 _ rfl); rw [Nat.add_zero] at h; exact h
            have e1 : (wr.drewN nq).cell? ⟨b0, o0 + j * 8 + 1, none⟩ = some (.string a.name) := (hR b0 hF0 _).trans (hca 1 _ rfl)
            have e2 : (wr.drewN nq).cell? ⟨b0, o0 + j * 8 + 2, none⟩ = some (.string a.src) := (hR b0 hF0 _).trans (hca 2 _ rfl)
            have e3 : (wr.drewN nq).cell? ⟨b0, o0 + j * 8 + 3, none⟩ = some (.int .i64 a.n) := (hR b0 hF0 _).trans (hca 3 _ rfl)
            have e4 : (wr.drewN nq).cell? ⟨b0, o0 + j * 8 + 4, none⟩ = some (.slice Ac2 nc2 cc2) := (hR b0 hF0 _).trans (hca 4 _ rfl)
            have e5 : (wr.drewN nq).cell? ⟨b0, o0 + j * 8 + 5, none⟩ = some (.slice Ae2 ne2 ce2) := (hR b0 hF0 _).trans (hca 5 _ rfl)
            have e6 : (wr.drewN nq).cell? ⟨b0, o0 + j * 8 + 6, none⟩ = some (.slice Ab2 nb2 cb2) := (hR b0 hF0 _).trans (hca 6 _ rfl)
            have e7 : (wr.drewN nq).cell? ⟨b0, o0 + j * 8 + 7, none⟩ = some (.slice Al2 nl2 cl2) := (hR b0 hF0 _).trans (hca 7 _ rfl)
            have f1 : (wr.drewN nq).cell? ⟨b1, oo1 + j, none⟩ = some (.int .i64 (tellS a).1) := (hR b1 hF1 _).trans hcn
            have f2 : (wr.drewN nq).cell? ⟨b2, oo2 + j, none⟩ = some (.int .i64 (tellS a).2) := (hR b2 hF2 _).trans hcd
            obtain ⟨y0, y1, y2, y3, y4, y5, yl⟩ := treeBox HE.out.box
            rw [Hmb.out] at y5
            replace y5 : (wr.drewN nq).cell? ⟨w.heap.size + 1 + 1, 5, none⟩ = some (.slice Bb mB db) := y5
            replace yl : w.heap.size + 1 + 1 < (wr.drewN nq).heap.size := yl
            replace t3 : (wr.drewN nq).cell? ⟨w3.heap.size, 3, none⟩ = some (.slice (some ⟨b0, o0, none⟩) m c3) := t3
            replace t4 : (wr.drewN nq).cell? ⟨w3.heap.size, 4, none⟩ = some (.slice (some ⟨b1, oo1, none⟩) m c4) := t4
            replace t5 : (wr.drewN nq).cell? ⟨w3.heap.size, 5, none⟩ = some (.slice (some ⟨b2, oo2, none⟩) m c5) := t5
            replace tl : w3.heap.size < (wr.drewN nq).heap.size := tl
            clear hR hca hcn hcd
            generalize wr.drewN nq = W5 at *
            obtain ⟨rows, hown, hrlen, hrwid, hrP⟩ := HEq.out.bod
            rw [Hmb.out] at hown
            have HrP := Lib.hid hrP
            have Hrw := Lib.hid hrwid
            have Hrl := Lib.hid hrlen
            clear hrP hrwid hrlen
            have hg2 := HEq.out.but.size
            have hfz := HEq.out.box.frozen
            have hp4 : w.heap.size + 1 + 1 < w3.heap.size := by have := Hq1.out.lt; omega
            have hownA : (W5.drew.alloc (.cells #[.int .i64 a.op, .string a.name, .string a.src, .int .i64 a.n, .slice Ac2 nc2 cc2, .slice Ae2 ne2 ce2, .slice Ab2 nb2 cb2, .slice Al2 nl2 cl2] 52)).ownsRow w4.heap.size 52 8 (.slice Bb mB db) mB rows.flatten := World.ownsRow.alloc (show W5.drew.ownsRow w4.heap.size 52 8 (.slice Bb mB db) mB rows.flatten from hown) _
            have hnewA : RowsAt (W5.drew.alloc (.cells #[.int .i64 a.op, .string a.name, .string a.src, .int .i64 a.n, .slice Ac2 nc2 cc2, .slice Ae2 ne2 ce2, .slice Ab2 nb2 cb2, .slice Al2 nl2 cl2] 52)) 8 (some ⟨W5.heap.size, 0, none⟩) 1 1 [[.int .i64 a.op, .string a.name, .string a.src, .int .i64 a.n, .slice Ac2 nc2 cc2, .slice Ae2 ne2 ce2, .slice Ab2 nb2 cb2, .slice Al2 nl2 cl2]] := RowsAt.lit' _ _ 1 (by rfl) rfl (by simp) rfl (by unfold maxLen; omega)
            have hm1 : mB + 1 ≤ maxLen := by unfold maxLen; omega
            have hm2 : (mB + 1) * 144 ≤ 140737488355328 := by omega
            have hm3 : w4.heap.size ≤ (W5.drew.alloc (.cells #[.int .i64 a.op, .string a.name, .string a.src, .int .i64 a.n, .slice Ac2 nc2 cc2, .slice Ae2 ne2 ce2, .slice Ab2 nb2 cb2, .slice Al2 nl2 cl2] 52)).heap.size := by simp; omega
            have hlo := HEq.out.bod.lo
            have hAl : ∀ b, b < w4.heap.size → ¬ Bb.map (·.block) = some b := by
              intro b hb e
              cases Bb with
              | none => cases e
              | some a2 =>
                have h := (hlo a2 rfl).1
                simp at e
                omega
            have HAl := Lib.hid hAl
            clear hAl hlo
            have Hc3 := Lib.hid (fun (w6 : World) (hb : But (fun k => Bb.map (·.block) = some k) (W5.drew.alloc (.cells #[.int .i64 a.op, .string a.name, .string a.src, .int .i64 a.n, .slice Ac2 nc2 cc2, .slice Ae2 ne2 ce2, .slice Ab2 nb2 cb2, .slice Al2 nl2 cl2] 52)) w6) (b : Nat) (hb0 : b < w4.heap.size) (i : Nat) => (hb.cell (p := ⟨b, i, none⟩) (by simp; omega) (HAl.out b hb0)).trans (World.cell?_alloc_lt W5.drew _ ⟨b, i, none⟩ (show b < W5.heap.size by omega)))
            have Hf3 := Lib.hid (fun (w6 : World) (hb : But (fun k => Bb.map (·.block) = some k) (W5.drew.alloc (.cells #[.int .i64 a.op, .string a.name, .string a.src, .int .i64 a.n, .slice Ac2 nc2 cc2, .slice Ae2 ne2 ce2, .slice Ab2 nb2 cb2, .slice Al2 nl2 cl2] 52)) w6) => (((show IsBlk W5.drew (w.heap.size + 1 + 1) _ _ from HEq.out.box).alloc _).as_was (hb.block _ (by simp; omega) (HAl.out _ (by omega)))).frozen)
            have Hsn := Lib.hid (sumT_snoc (body.map tellS) (tellS a))
            have Htn := Lib.hid (top0_snoc (body.map tellS) (tellS a))
            have ⟨ta0, ta1, ta2, ta3⟩ := tellS_ok a
            generalize htl : tellS a = tl' at *
            have Htl := Lib.hid htl
            clear htl
            have n0 : w3.heap.size ≠ w.heap.size + 1 + 1 := by omega
            have n1 : b1 ≠ w.heap.size + 1 + 1 := hF1.2.1
            have n2 : b2 ≠ w.heap.size + 1 + 1 := hF2.2.1
            have hl1 := hF1.1
            have hl2 := hF2.1
            go_region_law (refine stepApp (base := w4.heap.size) (xs := rows) (news := [[.int .i64 a.op, .string a.name, .string a.src, .int .i64 a.n, .slice Ac2 nc2 cc2, .slice Ae2 ne2 ce2, .slice Ab2 nb2 cb2, .slice Al2 nl2 cl2]]) rfl rfl tyStm rfl hownA rfl hnewA (by simp) (by simp [Value.oneCell']) hm1 hm2 hm3 ?_; intro A6 c6 w6 hown6 hbut6 hf6; have hfz6 := Hf3.out w6 hbut6; have z0 := (Hc3.out w6 hbut6 _ (by omega) 5).trans y5)
            all_goals
              have z4 := (Hc3.out w6 hbut6 w3.heap.size (by omega) 4).trans t4
              have z5 := (Hc3.out w6 hbut6 w3.heap.size (by omega) 5).trans t5
              have z6 := (Hc3.out w6 hbut6 b1 hl1 (oo1 + j)).trans f1
              have z7 := (Hc3.out w6 hbut6 b2 hl2 (oo2 + j)).trans f2
              go_wp2
              all_goals
                go_roundw
                case rel =>
                  have hA := HEq.out.add Hmb.out (by omega) Hrl.out Hrw.out HrP.out rfl Hpa.out hown6 hbut6 hf6
                  refine ⟨q + 1, body ++ [a], A6, c6, by omega, by rw [List.length_append, Hmb.out]; simp <;> omega, ?_, ?_, by go_num, hA⟩
                  · rw [List.map_append, List.map_cons, List.map_nil, Htl.out, Hsn.out, Hsum.out]
                  · first | (rw [List.map_append, List.map_cons, List.map_nil, Htl.out, Htn.out, Htop.out]; done) | (rw [List.map_append, List.map_cons, List.map_nil, Htl.out, Htn.out, Htop.out] <;> first | rw [ite_max] | exact congrArg (Value.int .i64) (by omega))
                case measure => simp [intOf]; omega
          · have Hm9 := Lib.hid (And.intro Hsum.out Htop.out)
            go_wp2
            all_goals
              go_meet
              rw [← Hsum.out, ← Htop.out]
              exact ⟨body, Bb, db, by have := Hmb.out; omega, rfl, rfl, HE.out⟩
      case rest =>
        obtain ⟨body, Bb, db, hb12, rfl, rfl, hE⟩ := hcut
        have HE := Lib.hid hE
        have Hb12 := Lib.hid hb12
        clear hE hb12
        generalize wc = W at *
        have hbut := HE.out.but
        have hlow : Below w.heap.size w W := Hb04.out.trans (hbut.below' Hb04.out.size (fun i e => by omega))
        have hrs := Hr4.out.as_was (hbut.block _ Hr4.out.lt (by omega))
        have hbs : StsAt (fun b => b ≠ w.heap.size + 1) 101 W Bb body.length db body := HE.out.bod.ls (fun b hb => by omega) (fun r x hx => StAt.turn (fun b _ hb => hb.2.2) (Kept.of_but hbut (fun b hb e => hb.2.1 e)) 101 (Nat.le_refl _) hx)
        have HH := Lib.hid (fun W' (hW : Below W.heap.size W W') => rheads_any F name src part fuel Ap Bb np cp body.length db params W' (Hp.out.below (hlow.trans (hW.mono hlow.size))) okn oks)
        have HBk := Lib.hid (fun W' (hW : Below W.heap.size W W') => rblocks_any (fun b => b ≠ w.heap.size + 1) 101 (HRB _) Bb body.length db body W' (StsAt.below hbs hW))
        obtain ⟨n5, d5, Hnd⟩ : ∃ n5 d5, Hid (toldZ (sumT (body.map tellS), top0 (body.map tellS)) = (n5, d5)) := ⟨_, _, rfl⟩
        have ht : Calls Try.prog 27 #[.int .i64 (sumT (body.map tellS)), .int .i64 (top0 (body.map tellS))] W fun x w' => x = .returned (.tuple #[.int .i64 n5, .int .i64 d5]) ∧ W = w' := by
          have h := told2_any (sumT (body.map tellS)) (top0 (body.map tellS)) W
          rw [Hnd.out] at h
          exact h
        have Ht := Lib.hid ht
        have Hrs := Lib.hid hrs
        have Hbs := Lib.hid hbs
        have Hlow := Lib.hid hlow
        have Hbut := Lib.hid hbut
        clear ht hrs hbs hlow hbut
        have Htell : Hid ((n5, d5) = tellP ⟨name, src, part, fuel, params, body⟩) := Lib.hid (by rw [← Hnd.out]; exact tellP_body body name src part fuel params)
        clear Hnd
        generalize sumT (body.map tellS) = s9 at *
        generalize top0 (body.map tellS) = s10 at *
        go_upto_region 14 with (go_at_call 27; refine Ht.out.mono ?_; rintro x w' ⟨rfl, rfl⟩)
        refine Code.wp_mono noPanic_then (regionQ name src part fuel n5 d5 Ap Bb np cp body.length db _ _ w W HE.out.box Hrs.out HH.out HBk.out ?_)
        intro y3 y4 y5 y6 y125 y126 y127 y128 y129 y130 y131 y132 y133 y134 y135 y136 y137 y138 y139 y140 y141 y142 W0 hb0 h3 h4 h5 h6
        subst h3 h4 h5 h6
        have hbx0 := HE.out.box.as_was (hb0.block _ HE.out.box.lt)
        have hrs0 := Hrs.out.as_was (hb0.block _ Hrs.out.lt)
        have hbt := but_six W0 (w.heap.size + 1) (.string name) (.string src) (.string part) (.int .i64 fuel) (.slice Ap np cp) (.slice Bb body.length db)
        have hrow : IsBlk ((((((W0.setCell ⟨w.heap.size + 1, 0, none⟩ (.string name)).setCell ⟨w.heap.size + 1, 1, none⟩ (.string src)).setCell ⟨w.heap.size + 1, 2, none⟩ (.string part)).setCell ⟨w.heap.size + 1, 3, none⟩ (.int .i64 fuel)).setCell ⟨w.heap.size + 1, 4, none⟩ (.slice Ap np cp)).setCell ⟨w.heap.size + 1, 5, none⟩ (.slice Bb body.length db)) (w.heap.size + 1) 34 #[.string name, .string src, .string part, .int .i64 fuel, .slice Ap np cp, .slice Bb body.length db] := (((((hrs0.stored 0 (.string name)).stored 1 (.string src)).stored 2 (.string part)).stored 3 (.int .i64 fuel)).stored 4 (.slice Ap np cp)).stored 5 (.slice Bb body.length db)
        obtain ⟨Wz, HWz⟩ : ∃ Wz, Hid (((((((W0.setCell ⟨w.heap.size + 1, 0, none⟩ (.string name)).setCell ⟨w.heap.size + 1, 1, none⟩ (.string src)).setCell ⟨w.heap.size + 1, 2, none⟩ (.string part)).setCell ⟨w.heap.size + 1, 3, none⟩ (.int .i64 fuel)).setCell ⟨w.heap.size + 1, 4, none⟩ (.slice Ap np cp)).setCell ⟨w.heap.size + 1, 5, none⟩ (.slice Bb body.length db)) = Wz) := ⟨_, rfl⟩
        rw [HWz.out] at hbt hrow ⊢
        obtain ⟨r0, r1, r2, r3, r4, r5, rl⟩ := treeBox hrow
        have rf := hrow.frozen
        have Hbt := Lib.hid hbt
        have Hb0 := Lib.hid hb0
        have HkW : Hid (Kept (fun b => b ≠ w.heap.size + 1) W Wz) := Lib.hid ((Kept.of_below (F := fun b => b ≠ w.heap.size + 1) hb0).trans (Kept.of_but hbt (fun b hb e => hb e)))
        have HlW : Hid (Below w.heap.size w Wz) := Lib.hid ((Hlow.out.trans (hb0.mono Hlow.out.size)).trans (hbt.below' (Nat.le_trans Hlow.out.size hb0.size) (fun b e => by omega)))
        have Hnp12 := Lib.hid hnp12
        clear hbx0 hrs0 hrow hbt hb0 hnp12 hnk12
        go_step
        go_wp2
        refine bodyPost_ret (v := .tuple #[.agg #[.string name, .string src, .string part, .int .i64 fuel, .slice Ap np cp, .slice Bb body.length db], .int .i64 n5, .int .i64 d5, .bool (decide (n5 ≤ 300) && decide (d5 ≤ 12) && refH name src part fuel params && body.all (builtS 101)), .bool true]) (by simp [results, Try.results11, go_sem, r0, r1, r2, r3, r4, r5]) rfl ⟨name, src, part, fuel, Ap, np, cp, Bb, body.length, db, n5, d5, _, true, rfl, HlW.out, fun _ => ⟨⟨name, src, part, fuel, params, body⟩, ⟨okn, oks, okp, okf, Ap, np, cp, Bb, body.length, db, rfl, ?_, ?_⟩, ?_, ?_, ?_, Hb12.out⟩⟩
        · have h := Hp.out.below HlW.out
          exact h.conv (Kept.refl _ _) (fun a ha h0 _ => h.lt h0 a ha) (fun _ _ _ h => h)
        · exact StsAt.turn (fun k hk _ => Nat.lt_of_lt_of_le hk HkW.out.size) HkW.out (Nat.le_refl _) Hbs.out
        · exact Htell.out
        · have h1 := small_told ⟨name, src, part, fuel, params, body⟩
          rw [← Htell.out] at h1
          show _ = (headsR name src part fuel params && smallZ (sizeP 101 ⟨name, src, part, fuel, params, body⟩) && body.all (builtS 101))
          rw [← h1, refH_heads]
          cases headsR name src part fuel params <;> cases decide (n5 ≤ 300) <;> cases decide (d5 ≤ 12) <;> rfl
        · rw [Hp.out.len]; exact Hnp12.out
end Go.Proofs.Ytgihhkfppnhdpaa

namespace Go.Proofs.Ytgihhkfppnhdpaa
open Go.RowKit Go.Afx Go.Maps Go.ChangeMaps

/-- a text in a list that rises, once -/
def putB : List ByteArray → ByteArray → List ByteArray
  | [], s => [s]
  | x :: r, s => if x.data.toList < s.data.toList then x :: putB r s else if x = s then x :: r else s :: x :: r
def Rises (l : List ByteArray) : Prop := l.Pairwise fun x y => x.data.toList < y.data.toList

theorem mem_putB (l : List ByteArray) (s y : ByteArray) : y ∈ putB l s ↔ y = s ∨ y ∈ l := by
  induction l with
  | nil => simp [putB]
  | cons x r ih =>
    unfold putB
    split
    · simp only [List.mem_cons, ih]
      exact ⟨fun h => by rcases h with h | h | h <;> simp [h], fun h => by rcases h with h | h | h <;> simp [h]⟩
    · split
      · rename_i h; subst h; simp
      · simp
theorem lt_of_not {a b : List UInt8} (h : ¬ a < b) (hne : a ≠ b) : b < a := by
  have h1 : b ≤ a := List.not_lt.1 h
  rcases List.le_iff_lt_or_eq.1 h1 with h2 | h2
  · exact h2
  · exact absurd h2.symm hne
theorem Rises.put {l : List ByteArray} (h : Rises l) (s : ByteArray) : Rises (putB l s) := by
  induction l with
  | nil => simp [putB, Rises]
  | cons x r ih =>
    obtain ⟨h1, h2⟩ := List.pairwise_cons.1 h
    unfold putB
    split
    · rename_i hlt
      refine List.pairwise_cons.2 ⟨fun y hy => ?_, ih h2⟩
      rcases (mem_putB r s y).1 hy with rfl | hy
      · exact hlt
      · exact h1 y hy
    · split
      · exact h
      · rename_i hn hne
        have hsx : s.data.toList < x.data.toList := lt_of_not hn (fun e => hne (data_inj e))
        refine List.pairwise_cons.2 ⟨fun y hy => ?_, h⟩
        rcases List.mem_cons.1 hy with rfl | hy
        · exact hsx
        · exact List.lt_trans hsx (h1 y hy)
def putsB (l L : List ByteArray) : List ByteArray := L.foldl putB l
theorem Rises.puts (L : List ByteArray) : ∀ {l : List ByteArray}, Rises l → Rises (putsB l L) := by
  induction L with
  | nil => intro l h; exact h
  | cons a r ih => intro l h; exact ih (h.put a)
theorem mem_putsB (L : List ByteArray) : ∀ (l : List ByteArray) (y : ByteArray), y ∈ putsB l L ↔ y ∈ L ∨ y ∈ l := by
  induction L with
  | nil => intro l y; simp [putsB]
  | cons a r ih =>
    intro l y
    have e : putsB l (a :: r) = putsB (putB l a) r := rfl
    rw [e, ih, mem_putB]
    simp only [List.mem_cons]
    exact ⟨fun h => by rcases h with h | h | h <;> simp [h], fun h => by rcases h with (h | h) | h <;> simp [h]⟩
theorem putsB_append (l L M : List ByteArray) : putsB l (L ++ M) = putsB (putsB l L) M := List.foldl_append
theorem Rises.nodup {l : List ByteArray} (h : Rises l) : l.Nodup := h.imp fun h e => by subst e; exact List.lt_irrefl _ h

/-- the keys of a set of names are texts -/
def Texts (D : DataW Unit) : Prop := ∃ es, D = .map es ∧ es.Pairwise (fun p q => p.1 ≠ q.1) ∧ ∀ p ∈ es, ∃ x, p.1 = .string x
theorem texts_fold (L : List ByteArray) : ∀ (D : DataW Unit), Texts D → Tidy D → Texts ((L.map litS).foldl (fun m x => m.put x (.lit (.bool true))) D) := by
  induction L with
  | nil => intro D h _; exact h
  | cons a r ih =>
    intro D h ht
    have ht2 : Tidy (D.put (litS a) (.lit (.bool true))) := ht.put (by simp [litS, WideAt.IsKeyLit]) _
    refine ih _ ?_ ht2
    obtain ⟨es, rfl, hp, hs⟩ := h
    obtain ⟨es2, he, hp2⟩ := ht2
    refine ⟨es2, he, hp2, fun p hpm => ?_⟩
    have e2 : (DataW.map es : DataW Unit).put (litS a) (.lit (.bool true)) = .map (DataW.insert (litS a, .lit (.bool true)) (es.filter fun p => !p.1.sameKey (litS a))) := rfl
    rw [e2] at he
    injection he with he
    rw [← he] at hpm
    rcases mem_insert_iff.1 hpm with rfl | hpm
    · exact ⟨_, rfl⟩
    · exact hs p (List.mem_filter.1 hpm).1
theorem setL_puts (L : List ByteArray) : setL L = (putsB [] L).map (·.data.toList) := by
  have hR : Rises (putsB [] L) := Rises.puts L List.Pairwise.nil
  have ht : Texts (setOf (.lit (.bool true)) (L.map litS) : DataW Unit) := texts_fold L _ ⟨[], rfl, List.Pairwise.nil, by simp⟩ tidy_empty
  obtain ⟨es, he, hp, hs⟩ := ht
  have hnd : ((putsB [] L).map (·.data.toList)).Nodup := (bytesL_nodup _).2 hR.nodup
  have hperm : ((putsB [] L).map (·.data.toList)).Perm (strKeys (.map es : DataW Unit)) := by
    refine perm_strKeys hp hs hnd fun x => ?_
    have hh := has_setOf (.lit (.bool true) : DataW Unit) (.string x) (L.map litS) (fun y hy => by obtain ⟨z, _, rfl⟩ := List.mem_map.1 hy; simp [litS, WideAt.IsKeyLit])
    rw [← he, hh, List.any_eq_true]
    constructor
    · intro h
      obtain ⟨y, hy, rfl⟩ := List.mem_map.1 h
      have := (mem_putsB L [] y).1 hy
      simp only [List.not_mem_nil, or_false] at this
      exact ⟨litS y, List.mem_map.2 ⟨y, this, rfl⟩, WideAt.sameKey_self (by simp [litS, WideAt.IsKeyLit])⟩
    · rintro ⟨z, hz, hk⟩
      obtain ⟨y, hy, rfl⟩ := List.mem_map.1 hz
      have hxy : litS y = .string x := by
        by_cases h : litS y = .string x
        · exact h
        · rw [sameKey_ne h] at hk; cases hk
      simp only [litS, Lit.string.injEq] at hxy
      subst hxy
      exact List.mem_map.2 ⟨y, (mem_putsB L [] y).2 (.inl hy), rfl⟩
  have hs1 : ((putsB [] L).map (·.data.toList)).Pairwise (fun x y => x ≤ y) := by
    rw [List.pairwise_map]
    exact hR.imp fun h => List.le_of_lt h
  rw [setL, he]
  refine List.Perm.eq_of_pairwise (le := fun x y => x ≤ y) (fun a b _ _ h1 h2 => List.le_antisymm h1 h2) (sort_rises _) hs1 ((List.mergeSort_perm _ _).trans hperm.symm)
end Go.Proofs.Ytgihhkfppnhdpaa

namespace Go.Proofs.Ytgihhkfppnhdpaa
open Go.RowKit Go.Afx

theorem bless_eq (x y : ByteArray) : Op.bytesLess x.toList y.toList = decide (x.data.toList < y.data.toList) := by
  rw [bytesLess_eq, ByteArray.toList_eq, ByteArray.toList_eq]
theorem putB_at (s : ByteArray) : ∀ (l : List ByteArray) (k : Nat), (∀ y ∈ l.take k, Op.bytesLess y.toList s.toList = true) → (k = l.length ∨ ∃ x, l[k]? = some x ∧ Op.bytesLess x.toList s.toList = false) →
    putB l s = if l[k]? = some s then l else l.take k ++ s :: l.drop k := by
  intro l
  induction l with
  | nil => intro k _ h2; simp [putB]
  | cons a r ih =>
    intro k h1 h2
    cases k with
    | zero =>
      rcases h2 with h2 | ⟨x, hx, hn⟩
      · simp at h2
      · simp at hx
        subst hx
        rw [bless_eq, decide_eq_false_iff_not] at hn
        rw [putB, if_neg hn]
        simp
    | succ k =>
      have ha := h1 a (by simp)
      rw [bless_eq, decide_eq_true_iff] at ha
      rw [putB, if_pos ha, ih k (fun y hy => h1 y (by simp [hy])) (by
        rcases h2 with h2 | ⟨x, hx, hn⟩
        · exact .inl (by simpa using h2)
        · exact .inr ⟨x, by simpa using hx, hn⟩)]
      simp only [List.getElem?_cons_succ, List.take_succ_cons, List.drop_succ_cons, List.cons_append]
      split <;> rfl

end Go.Proofs.Ytgihhkfppnhdpaa

namespace Go.Proofs.Ytgihhkfppnhdpaa
open Go.RowKit Go.Afx

/-- a slice of these texts, whatever it lies in -/
def GivesN (w : World) (l : List ByteArray) (e : Ending) (w' : World) : Prop := ∃ A n c, e = .returned (.slice A n c) ∧ NamesAt w' A n c l ∧ Below w.heap.size w w'
theorem NamesAt.cut {w : World} {A : Option Addr} {n c : Nat} {l : List ByteArray} (h : NamesAt w A n c l) {k : Nat} (hk : k ≤ n) : NamesAt w A k c (l.take k) := by
  have hl := h.len
  refine ⟨by simp; omega, by have := RowsAt.cap h; omega, RowsAt.max h, fun j row hr => ?_⟩
  rw [List.map_take, List.getElem?_take] at hr
  split at hr
  · exact RowsAt.at_ h j row hr
  · cases hr

theorem NamesAt.drop {w : World} {b o n c : Nat} {l : List ByteArray} (h : NamesAt w (some ⟨b, o, none⟩) n c l) {k : Nat} (hk : k ≤ n) : NamesAt w (some ⟨b, o + k, none⟩) (n - k) (c - k) (l.drop k) := by
  have hl := h.len
  have hc := RowsAt.cap h
  have hm := RowsAt.max h
  refine ⟨by simp; omega, by omega, by omega, fun j row hr => ?_⟩
  rw [List.map_drop, List.getElem?_drop] at hr
  obtain ⟨b2, o2, hA, hb, hc⟩ := RowsAt.at_ h (k + j) row hr
  injection hA with hA
  injection hA with e1 e2
  subst e1 e2
  exact ⟨_, _, rfl, hb, fun i u hu => by have := hc i u hu; rw [Nat.mul_one] at this ⊢; rwa [Nat.add_assoc o k j]⟩
theorem NamesAt.none_ {w : World} {A : Option Addr} {c : Nat} (hc : c ≤ maxLen) : NamesAt w A 0 c [] := ⟨rfl, Nat.zero_le _, hc, fun k row h => by simp at h⟩
theorem names_oneR {w : World} {T : TypeId} {g : Nat} (s : ByteArray) (hg : g = w.heap.size) : NamesAt (w.alloc (.cells #[.string s] T)) (some ⟨g, 0, none⟩) 1 1 [s] :=
  RowsAt.lit' _ _ 1 hg rfl srow_len rfl (by unfold maxLen; omega)
theorem names_far {w : World} {base : Nat} {T : TypeId} {sz n c k : Nat} {A : Option Addr} {xs : List Value} (h : w.ownsRow base T sz (.slice A n c) n xs) (hk : A.map (·.block) = some k) : base ≤ k := by
  cases A with
  | none => cases hk
  | some a =>
    have e : a.block = k := by simpa using hk
    have := (h.lt a.block rfl).1
    omega
theorem map_app3 (a b : List ByteArray) (s : ByteArray) : ((a.map srow ++ [s].map srow) ++ b.map srow).flatten = ((a ++ s :: b).map srow).flatten := by simp

set_option maxRecDepth 100000 in
set_option maxHeartbeats 2000000 in
theorem put_any (A : Option Addr) (n c : Nat) (l : List ByteArray) (s : ByteArray) (w : World) (h : NamesAt w A n c l) (hbig : n ≤ 1000000) :
    Calls Try.prog 15 #[.slice A n c, .string s] w (GivesN w (putB l s)) := by
  have hn := RowsAt.n_le h
  have hcap := RowsAt.cap h
  have hcm := RowsAt.max h
  have hcm : c ≤ 9223372036854775807 := by unfold maxLen at hcm; omega
  have Hl := Lib.hid h.len
  have Hat := Lib.hid (fun k hk => NamesAt.at_ h (k := k) hk)
  go_enter Try.func15, Try.ntmps15
  go_wp2
  go_loop [5] (fun i => ∃ k : Nat, k ≤ n ∧ i = .int .i64 k ∧ ∀ y ∈ l.take k, Op.bytesLess y.toList s.toList = true) (fun i => n - (intOf i).toNat)
  case atStart => exact ⟨0, Nat.zero_le _, rfl, by simp⟩
  case round =>
    obtain ⟨k, hk, rfl, hall⟩ := hrel
    have Hall := Lib.hid hall
    clear hall
    by_cases hlt : k < n
    · obtain ⟨b, o, x, rfl, hbl, hx, hc0⟩ := Hat.out k hlt
      have Hx := Lib.hid hx
      clear hx
      have hd : decide ((k : Int) < (n : Int)) = true := by simp; omega
      obtain ⟨q, Hq⟩ : ∃ q, Hid (Op.bytesLess x.toList s.toList = q) := ⟨_, rfl⟩
      have hq := Hq.out
      cases q
      · by_cases he : (x.toList == s.toList) = true
        · have Hf : Hid (putB l s = l) := Lib.hid (by
            have hxs : x = s := by simpa [bs_eq] using he
            rw [putB_at s l k Hall.out (.inr ⟨x, Hx.out, Hq.out⟩), if_pos (by rw [Hx.out, hxs])])
          have h' := h
          have Hn := Lib.hid h'
          clear h h'
          go_wp2
          go_ret
          rw [Hf.out]
          exact ⟨_, _, _, rfl, Hn.out, Below.refl _ _⟩
        · have he : (x.toList == s.toList) = false := by simpa using he
          have Hf : Hid (putB l s = l.take k ++ s :: l.drop k) := Lib.hid (by
            rw [putB_at s l k Hall.out (.inr ⟨x, Hx.out, Hq.out⟩), if_neg (by
              rw [Hx.out]
              intro h2
              injection h2 with h2
              rw [h2] at he
              simp at he)])
          have Hn := Lib.hid h
          clear h
          have hn0 : w.ownsRow w.heap.size 9 1 (.slice none 0 0) 0 ([] : List (List Value)).flatten := World.ownsRow_nil _ _ _ _
          have hcut := Hn.out.cut (k := k) (by omega)
          have hm1 : 0 + k ≤ maxLen := by unfold maxLen; omega
          have hm2 : (0 + k) * 16 ≤ 140737488355328 := by omega
          have hm3 : k + 1 ≤ maxLen := by unfold maxLen; omega
          have hm4 : (k + 1) * 16 ≤ 140737488355328 := by omega
          have hm5 : k + 1 + (n - k) ≤ maxLen := by unfold maxLen; omega
          have hm6 : (k + 1 + (n - k)) * 16 ≤ 140737488355328 := by omega
          go_wp2_with (first
            | (at_builtin; (refine wpList_app (s := .tmp 34) (x := .tmp 37) (xs := []) rfl rfl tyStr rfl hn0 rfl hcut srow_len srow_one hm1 hm2 ?_ ?_; (exact Nat.le_refl _); intro A3 c3 w3 hown3 hbut3 hf3; rw [Nat.zero_add] at hown3; rw [Nat.zero_add]); (have hb3 : Below w.heap.size w w3 := hbut3.below (fun i hi => by cases hi); have hz3 := hb3.size; have hown3' := hown3.alloc (.cells #[.string s] 9); have hnew3 := names_oneR (w := w3) (T := 9) s rfl))
            | (at_builtin; (refine wpList_app (s := .tmp 39) (x := .tmp 41) (xs := ([] ++ (l.take k).map srow)) (news := [s].map srow) rfl rfl tyStr rfl hown3' rfl hnew3 srow_len srow_one hm3 hm4 ?_ ?_; (simp; omega); intro A4 c4 w4 hown4 hbut4 hf4); (have hb4 : Below w.heap.size w w4 := (hb3.alloc hz3 _).trans (hbut4.below' (by simp; omega) (fun i hi => names_far hown3 hi)); have hz4 := hb4.size; have hd4 := (Hn.out.below hb4).drop (k := k) (by omega)))
            | (at_builtin; (refine wpList_app (s := .tmp 43) (x := .tmp 46) (xs := ([] ++ (l.take k).map srow) ++ [s].map srow) (news := (l.drop k).map srow) rfl rfl tyStr rfl hown4 rfl hd4 srow_len srow_one hm5 hm6 ?_ ?_; (omega); intro A5 c5 w5 hown5 hbut5 hf5)))
          go_ret
          rw [Hf.out]
          have hl := Hl.out
          refine ⟨A5, _, c5, rfl, ?_, hb4.trans (hbut5.below' hz4 (fun i hi => names_far hown4 hi))⟩
          have e : (([] ++ (l.take k).map srow) ++ [s].map srow ++ (l.drop k).map srow).flatten = ((l.take k ++ s :: l.drop k).map srow).flatten := by simp
          rw [e] at hown5
          exact RowsAt.of_own hown5 srow_len (by simp; omega)
      · have Hnx := Lib.hid (mem_take_succ Hx.out Hall.out Hq.out)
        go_wp2
        go_round
        case rel => exact ⟨k + 1, by omega, by go_num, Hnx.out⟩
        case measure => simp [intOf]; omega
    · obtain rfl : k = n := by omega
      have hd : decide ((k : Int) < (k : Int)) = false := by simp
      have Hf : Hid (putB l s = l ++ [s]) := Lib.hid (by
        have hl := Hl.out
        rw [putB_at s l k Hall.out (.inl hl.symm), if_neg (by rw [List.getElem?_eq_none (by omega)]; simp), List.take_of_length_le (by omega), List.drop_of_length_le (by omega)])
      have Hn := Lib.hid h
      have hn0 : w.ownsRow w.heap.size 9 1 (.slice none 0 0) 0 ([] : List (List Value)).flatten := World.ownsRow_nil _ _ _ _
      have hcut := Hn.out.cut (k := k) (by omega)
      have hm1 : 0 + k ≤ maxLen := by unfold maxLen; omega
      have hm2 : (0 + k) * 16 ≤ 140737488355328 := by omega
      have hm3 : k + 1 ≤ maxLen := by unfold maxLen; omega
      have hm4 : (k + 1) * 16 ≤ 140737488355328 := by omega
      have hm5 : k + 1 + 0 ≤ maxLen := by unfold maxLen; omega
      have hm6 : (k + 1 + 0) * 16 ≤ 140737488355328 := by omega
      clear h
      go_wp2_with (first
            | (at_builtin; (refine wpList_app (s := .tmp 34) (x := .tmp 37) (xs := []) rfl rfl tyStr rfl hn0 rfl hcut srow_len srow_one hm1 hm2 ?_ ?_; (exact Nat.le_refl _); intro A3 c3 w3 hown3 hbut3 hf3; rw [Nat.zero_add] at hown3; rw [Nat.zero_add]); (have hb3 : Below w.heap.size w w3 := hbut3.below (fun i hi => by cases hi); have hz3 := hb3.size; have hown3' := hown3.alloc (.cells #[.string s] 9); have hnew3 := names_oneR (w := w3) (T := 9) s rfl))
            | (at_builtin; (refine wpList_app (s := .tmp 39) (x := .tmp 41) (xs := ([] ++ (l.take k).map srow)) (news := [s].map srow) rfl rfl tyStr rfl hown3' rfl hnew3 srow_len srow_one hm3 hm4 ?_ ?_; (simp; omega); intro A4 c4 w4 hown4 hbut4 hf4); (have hb4 : Below w.heap.size w w4 := (hb3.alloc hz3 _).trans (hbut4.below' (by simp; omega) (fun i hi => names_far hown3 hi)); have hz4 := hb4.size))
            | (at_builtin; (refine wpList_app (s := .tmp 43) (x := .tmp 46) (xs := ([] ++ (l.take k).map srow) ++ [s].map srow) (news := ([] : List ByteArray).map srow) rfl rfl tyStr rfl hown4 rfl (NamesAt.none_ ?_) srow_len srow_one hm5 hm6 ?_ ?_; (unfold maxLen; omega); (omega); intro A5 c5 w5 hown5 hbut5 hf5)))
      all_goals
        go_ret
        rw [Hf.out]
        have hl := Hl.out
        refine ⟨A5, _, c5, rfl, ?_, hb4.trans (hbut5.below' hz4 (fun i hi => names_far hown4 hi))⟩
        have e : (([] ++ (l.take k).map srow) ++ [s].map srow ++ ([] : List ByteArray).map srow).flatten = ((l ++ [s]).map srow).flatten := by rw [List.take_of_length_le (by omega)]; simp
        rw [e] at hown5
        exact RowsAt.of_own hown5 srow_len (by simp; omega)
end Go.Proofs.Ytgihhkfppnhdpaa

namespace Go.Proofs.Ytgihhkfppnhdpaa
open Go.RowKit Go.Afx

theorem putB_len (l : List ByteArray) (s : ByteArray) : (putB l s).length ≤ l.length + 1 := by
  induction l with
  | nil => simp [putB]
  | cons x r ih =>
    unfold putB
    split
    · rw [List.length_cons, List.length_cons]; omega
    · split <;> simp
theorem putsB_len (L : List ByteArray) : ∀ l : List ByteArray, (putsB l L).length ≤ l.length + L.length := by
  induction L with
  | nil => intro l; exact Nat.le_refl _
  | cons a r ih =>
    intro l
    have e : putsB l (a :: r) = putsB (putB l a) r := rfl
    rw [e, List.length_cons]
    have := ih (putB l a)
    have := putB_len l a
    omega
theorem built_op {d : Nat} {e : Ex} (h : builtE (d + 1) e = true) : e.op ≤ 24 := by
  rw [builtE, Bool.and_eq_true] at h
  have h1 := h.1
  unfold headE at h1
  rw [Bool.and_eq_true, decide_eq_true_iff] at h1
  have h2 := h1.1
  unfold arityB at h2
  by_cases hle : e.op ≤ 24
  · exact hle
  · repeat (rw [if_neg (by omega)] at h2)
    omega
theorem built_args {d : Nat} {e : Ex} (h : builtE (d + 1) e = true) : ∀ x ∈ e.args, builtE d x = true := by
  rw [builtE, Bool.and_eq_true] at h
  exact List.all_eq_true.1 h.2

def RSrcs (F : Nat → Prop) (d : Nat) : Prop := ∀ (A : Option Addr) (n c : Nat) (l : List ByteArray) (e : Ex) (row : List Value) (w : World), ExAt F d w row e → builtE d e = true → NamesAt w A n c l → l.length + (srcsE d e).length ≤ 100000 →
  Calls Try.prog 39 #[.slice A n c, .agg row.toArray] w (GivesN w (putsB l (srcsE d e)))
def SrcsIn (w : World) (m : Nat) (l : List ByteArray) (args : List Ex) (d : Nat) (u0 i : Value) (wr : World) : Prop :=
  ∃ (k : Nat) (A : Option Addr) (n c : Nat) (l' : List ByteArray), k ≤ m ∧ i = .int .i64 k ∧ u0 = .slice A n c ∧ NamesAt wr A n c l' ∧ l' = putsB l ((args.take k).flatMap (srcsE d)) ∧ Below w.heap.size w wr
set_option maxRecDepth 100000 in
set_option maxHeartbeats 2000000 in
theorem rsrcs_any (F : Nat → Prop) (d : Nat) : RSrcs F d := by
  induction d with
  | zero => intro A n c l e row w h; exact h.elim
  | succ d ih =>
    intro A n c l e row w h hb hl hbig
    have ho24 := built_op hb
    have Hargs := Lib.hid (built_args hb)
    have hln := hl.len
    obtain ⟨o1, o2, o3, o4, o5, A2, m, c2, rfl, hel⟩ := h.open_
    have hm := LsAt.n_le hel
    have Hm := Lib.hid (LsAt.len hel)
    obtain ⟨L0, HL0⟩ : ∃ L0, Hid ((if rowsB e.op then [e.src] else []) = L0) := ⟨_, rfl⟩
    have Hfin : Hid (srcsE (d + 1) e = L0 ++ e.args.flatMap (srcsE d)) := Lib.hid (by rw [srcsE, HL0.out])
    have hbig2 : l.length + L0.length + (e.args.flatMap (srcsE d)).length ≤ 100000 := by rw [Hfin.out, List.length_append] at hbig; omega
    clear hbig hb h
    have hb1 : Below w.heap.size w (w.alloc (.cells #[.int .i64 e.op, .int .i64 e.n, .string e.s, .string e.name, .string e.src, .slice A2 m c2] 50)) := (Below.refl _ _).alloc (Nat.le_refl _) _
    obtain ⟨w1, Hw1⟩ : ∃ w1, Hid (w1 = w.alloc (.cells #[.int .i64 e.op, .int .i64 e.n, .string e.s, .string e.name, .string e.src, .slice A2 m c2] 50)) := ⟨_, rfl⟩
    rw [← Hw1.out] at hb1
    have he1 : IsBlk w1 w.heap.size 50 #[.int .i64 e.op, .int .i64 e.n, .string e.s, .string e.name, .string e.src, .slice A2 m c2] := by rw [Hw1.out]; exact IsBlk.laid _ _ _
    have HE := Lib.hid (fun W (hW : Below w1.heap.size w1 W) => exBox (he1.as_was (hW.block _ he1.lt)))
    have Hel := Lib.hid (fun W (hW : Below w.heap.size w W) => ExsAt.below hel hW)
    have hl1 := hl.below hb1
    have HB1 := Lib.hid hb1
    obtain ⟨i0, i1, i2, i3, i4, i5, il⟩ := exBox he1
    clear hel he1 hl
    have hz1 := hb1.size
    clear hb1
    go_enter Try.func39, Try.ntmps39
    go_upto_region 1 with (fail)
    rw [← Hw1.out]
    by_cases hop : 21 ≤ e.op
    · have hL : L0 = [e.src] := by rw [← HL0.out, if_pos (by simp [rowsB]; omega)]
      subst hL
      rw [List.length_singleton] at hbig2
      have Hp := Lib.hid (put_any A n c l e.src w1 hl1 (by omega))
      have hlen := putB_len l e.src
      generalize hput : putB l e.src = l1 at *
      have Hput := Lib.hid hput
      clear hput
      go_wp2_with (go_at_call 15; refine Hp.out.mono ?_; rintro x w3 ⟨A3, n3, c3, rfl, hn3, hb3⟩)
      have hb03 := HB1.out.trans (hb3.mono hz1)
      have HN3 := Lib.hid hn3
      have HB3 := Lib.hid hb3
      clear hn3
      go_loopw [0, 5] (fun u0 i wr => SrcsIn w3 m l1 e.args d u0 i wr) (fun _ i _ => m - (intOf i).toNat)
      case atStart => exact ⟨0, _, _, _, _, Nat.zero_le _, rfl, rfl, HN3.out, rfl, Below.refl _ _⟩
      case round =>
        obtain ⟨k, A4, n4, c4, l', hk, rfl, rfl, hn4, hl', hB⟩ := hrel
        have Hl' := Lib.hid hl'
        have h13 := HB3.out.trans (hB.mono HB3.out.size)
        have h03 := hb03.trans (hB.mono hb03.size)
        obtain ⟨g0, g1, g2, g3, g4, g5, gl⟩ := HE.out wr h13
        have hn4l := hn4.len
        have HN4 := Lib.hid hn4
        clear hl' hn4
        by_cases hlt : k < m
        · cases d with
          | zero =>
            obtain ⟨b, o, r, e', hA, hbl, _, he, hl, hp, hc⟩ := LsAt.get (Hel.out wr h03) hlt
            exact hp.elim
          | succ d =>
            obtain ⟨b, o, x, A5, m5, c5, rfl, hbl, hx, hc0, hc1, hc2, hc3, hc4, hc5, hp, _⟩ := ExsAt.get (Hel.out wr h03) hlt
            have Hx := Lib.hid hx
            clear hx
            have hxb := Hargs.out x (List.mem_of_getElem? Hx.out)
            have t1 := flat_le (f := srcsE (d + 1)) Hx.out
            have t2 := putsB_len ((e.args.take k).flatMap (srcsE (d + 1))) l1
            rw [← Hl'.out] at t2
            have Hc := Lib.hid (ih A4 n4 c4 l' x _ wr hp hxb HN4.out (by omega))
            have Hst := Lib.hid (flat_take (f := srcsE (d + 1)) Hx.out)
            clear t1 t2 hxb
            go_wp2_with (go_at_call 39; refine Hc.out.mono ?_; rintro y w5 ⟨A6, n6, c6, rfl, hn6, hb6⟩)
            go_roundw
            case rel => exact ⟨k + 1, A6, n6, c6, _, by omega, by go_num, rfl, hn6, by rw [Hst.out, putsB_append, ← Hl'.out], hB.trans (hb6.mono hB.size)⟩
            case measure => simp [intOf]; omega
        · go_wp2
          go_ret
          refine ⟨A4, n4, c4, rfl, ?_, h03⟩
          have h := Hl'.out
          rw [List.take_of_length_le (by rw [Hm.out]; omega)] at h
          have e1 : putsB l ([e.src] ++ e.args.flatMap (srcsE d)) = putsB (putB l e.src) (e.args.flatMap (srcsE d)) := by rw [putsB_append]; rfl
          rw [Hfin.out, e1, Hput.out, ← h]
          exact HN4.out
    · have hL : L0 = [] := by rw [← HL0.out, if_neg (by simp [rowsB]; omega)]
      subst hL
      rw [List.length_nil] at hbig2
      have HN3 := Lib.hid hl1
      clear hl1
      go_wp2
      go_loopw [0, 5] (fun u0 i wr => SrcsIn w1 m l e.args d u0 i wr) (fun _ i _ => m - (intOf i).toNat)
      case atStart => exact ⟨0, _, _, _, _, Nat.zero_le _, rfl, rfl, HN3.out, rfl, Below.refl _ _⟩
      case round =>
        obtain ⟨k, A4, n4, c4, l', hk, rfl, rfl, hn4, hl', hB⟩ := hrel
        have Hl' := Lib.hid hl'
        have h03 := HB1.out.trans (hB.mono hz1)
        obtain ⟨g0, g1, g2, g3, g4, g5, gl⟩ := HE.out wr hB
        have hn4l := hn4.len
        have HN4 := Lib.hid hn4
        clear hl' hn4
        by_cases hlt : k < m
        · cases d with
          | zero =>
            obtain ⟨b, o, r, e', hA, hbl, _, he, hl, hp, hc⟩ := LsAt.get (Hel.out wr h03) hlt
            exact hp.elim
          | succ d =>
            obtain ⟨b, o, x, A5, m5, c5, rfl, hbl, hx, hc0, hc1, hc2, hc3, hc4, hc5, hp, _⟩ := ExsAt.get (Hel.out wr h03) hlt
            have Hx := Lib.hid hx
            clear hx
            have hxb := Hargs.out x (List.mem_of_getElem? Hx.out)
            have t1 := flat_le (f := srcsE (d + 1)) Hx.out
            have t2 := putsB_len ((e.args.take k).flatMap (srcsE (d + 1))) l
            rw [← Hl'.out] at t2
            have Hc := Lib.hid (ih A4 n4 c4 l' x _ wr hp hxb HN4.out (by omega))
            have Hst := Lib.hid (flat_take (f := srcsE (d + 1)) Hx.out)
            clear t1 t2 hxb
            go_wp2_with (go_at_call 39; refine Hc.out.mono ?_; rintro y w5 ⟨A6, n6, c6, rfl, hn6, hb6⟩)
            go_roundw
            case rel => exact ⟨k + 1, A6, n6, c6, _, by omega, by go_num, rfl, hn6, by rw [Hst.out, putsB_append, ← Hl'.out], hB.trans (hb6.mono hB.size)⟩
            case measure => simp [intOf]; omega
        · go_wp2
          go_ret
          refine ⟨A4, n4, c4, rfl, ?_, h03⟩
          have h := Hl'.out
          rw [List.take_of_length_le (by rw [Hm.out]; omega)] at h
          rw [Hfin.out, List.nil_append, ← h]
          exact HN4.out
end Go.Proofs.Ytgihhkfppnhdpaa
