/- Syntax, part W: what a statement, a procedure uses. -/
import Derived.Test.YtgihhkfppnhdpaaSynT
import Derived.Test.YtgihhkfppnhdpaaSynU
import Derived.Test.YtgihhkfppnhdpaaSynV
import Derived.Test.YtgihhkfppnhdpaaSynX
namespace Go.Proofs.Ytgihhkfppnhdpaa
open Go.RowKit Go.Afx Go.Maps Go.WideMaps

theorem usesS_any (d : Nat) : UsesS d := by
  induction d with
  | zero => intro b1 b2 b3 x row w L1 L2 L3 h; exact h.elim
  | succ d ih =>
    intro b1 b2 b3 x row w L1 L2 L3 h hu g1 g2 g3
    obtain ⟨ho, hn, hnm, hsr, Ac, nc, cc, Ae, ne, ce, Ab, nb, cb, Al, nl, cl, rfl, hcl, hel, hbl, hll⟩ := h.open_
    rw [cntS, Nat.add_assoc 1, Nat.add_assoc 1, ← Nat.add_assoc 1, ← Nat.add_assoc 1] at g1 g2 g3
    have e1 : ∀ o : List ByteArray, (if x.op = 4 ∨ x.op = 5 ∨ x.op = 6 then [x.src] else []) = o → readsS (d + 1) x = o ++ x.exprs.flatMap (srcsE d) ++ (x.body ++ x.els).flatMap (readsS d) := by
      intro o ho; rw [readsS, ho, List.flatMap_append, List.append_assoc, List.append_assoc]
    have e2 : ∀ o : List ByteArray, (if x.op = 3 ∨ x.op = 4 ∨ x.op = 5 then [x.src] else []) = o → writesS (d + 1) x = o ++ (x.body ++ x.els).flatMap (writesS d) := by
      intro o ho; rw [writesS, ho, List.flatMap_append, List.append_assoc]
    have e3 : ∀ o : List ByteArray, (if x.op = 8 then [x.src] else []) = o → emitsS (d + 1) x = o ++ (x.body ++ x.els).flatMap (emitsS d) := by
      intro o ho; rw [emitsS, ho, List.flatMap_append, List.append_assoc]
    by_cases h4 : x.op = 4
    · rw [e1 [x.src] (by simp [h4]), e2 [x.src] (by simp [h4]), e3 [] (by simp [h4]), h4]
      exact uses_4 d ih b1 b2 b3 x.n x.name x.src Ac Ae Ab Al nc cc ne ce nb cb nl cl x.exprs x.body x.els w L1 L2 L3 hsr hel hbl hll hu (by omega) (by omega) (by omega)
    by_cases h5 : x.op = 5
    · rw [e1 [x.src] (by simp [h5]), e2 [x.src] (by simp [h5]), e3 [] (by simp [h5]), h5]
      exact uses_5 d ih b1 b2 b3 x.n x.name x.src Ac Ae Ab Al nc cc ne ce nb cb nl cl x.exprs x.body x.els w L1 L2 L3 hsr hel hbl hll hu (by omega) (by omega) (by omega)
    by_cases h6 : x.op = 6
    · rw [e1 [x.src] (by simp [h6]), e2 [] (by simp [h6]), e3 [] (by simp [h6]), h6]
      exact uses_6 d ih b1 b2 b3 x.n x.name x.src Ac Ae Ab Al nc cc ne ce nb cb nl cl x.exprs x.body x.els w L1 L2 L3 hsr hel hbl hll hu (by omega) (by omega) (by omega)
    by_cases h3 : x.op = 3
    · rw [e1 [] (by simp [h3]), e2 [x.src] (by simp [h3]), e3 [] (by simp [h3]), h3]
      exact uses_3 d ih b1 b2 b3 x.n x.name x.src Ac Ae Ab Al nc cc ne ce nb cb nl cl x.exprs x.body x.els w L1 L2 L3 hsr hel hbl hll hu (by omega) (by omega) (by omega)
    by_cases h8 : x.op = 8
    · rw [e1 [] (by simp [h8]), e2 [] (by simp [h8]), e3 [x.src] (by simp [h8]), h8]
      exact uses_8 d ih b1 b2 b3 x.n x.name x.src Ac Ae Ab Al nc cc ne ce nb cb nl cl x.exprs x.body x.els w L1 L2 L3 hsr hel hbl hll hu (by omega) (by omega) (by omega)
    · rw [e1 [] (by simp [h4, h5, h6]), e2 [] (by simp [h3, h4, h5]), e3 [] (by simp [h8])]
      exact uses_none d ih b1 b2 b3 x.op x.n x.name x.src Ac Ae Ab Al nc cc ne ce nb cb nl cl x.exprs x.body x.els w L1 L2 L3 (by omega) hel hbl hll hu (by omega) (by omega) (by omega)

theorem use_laid {w : World} {g : Nat} (hg : g = w.heap.size) : UseAt (w.alloc (.map #[] 0)) g [] := by subst hg; exact UseAt.made w
theorem UseAt.alloc {w : World} {b : Nat} {L : List ByteArray} (h : UseAt w b L) (o : Obj) : UseAt (w.alloc o) b L := World.ownsMap.alloc h o
theorem Sets.but {w w' : World} {S : Nat → Prop} {b1 b2 b3 : Nat} {L1 L2 L3 : List ByteArray} (h : Sets w b1 b2 b3 L1 L2 L3) (hb : But S w w') (n1 : ¬ S b1) (n2 : ¬ S b2) (n3 : ¬ S b3) : Sets w' b1 b2 b3 L1 L2 L3 := ⟨h.one.but hb n1, h.two.but hb n2, h.three.but hb n3, h.n12, h.n13, h.n23⟩
theorem usBox0 {w : World} {g : Nat} {T : TypeId} (h : IsBlk w g T #[.map none, .map none, .map none]) :
    w.cell? ⟨g, 0, none⟩ = some (.map none) ∧ w.cell? ⟨g, 1, none⟩ = some (.map none) ∧ w.cell? ⟨g, 2, none⟩ = some (.map none) ∧ g < w.heap.size := by
  have h0 := h.cell 0; have h1 := h.cell 1; have h2 := h.cell 2
  simp at h0 h1 h2
  exact ⟨h0, h1, h2, h.lt⟩
theorem res_ok {W w : World} {B g b1 b2 b3 : Nat} {R Wr Em : List ByteArray} (hS : Sets W b1 b2 b3 R Wr Em) (n1 : b1 ≠ g) (n2 : b2 ≠ g) (n3 : b3 ≠ g) (hB : Below B w W) (hg : B ≤ g) (u v x : Value) :
    Sets (((W.setCell ⟨g, 0, none⟩ u).setCell ⟨g, 1, none⟩ v).setCell ⟨g, 2, none⟩ x) b1 b2 b3 R Wr Em ∧ Below B w (((W.setCell ⟨g, 0, none⟩ u).setCell ⟨g, 1, none⟩ v).setCell ⟨g, 2, none⟩ x) := by
  have hb : But (fun k => k = g) W (((W.setCell ⟨g, 0, none⟩ u).setCell ⟨g, 1, none⟩ v).setCell ⟨g, 2, none⟩ x) := (((But.refl (fun k => k = g) W).setCell (p := ⟨g, 0, none⟩) (.inl rfl) u).setCell (p := ⟨g, 1, none⟩) (.inl rfl) v).setCell (p := ⟨g, 2, none⟩) (.inl rfl) x
  exact ⟨hS.but hb n1 n2 n3, ((hB.setCell (p := ⟨g, 0, none⟩) hg u).setCell (p := ⟨g, 1, none⟩) hg v).setCell (p := ⟨g, 2, none⟩) hg x⟩
/-- what 'used' hands back -/
def GivesU (w : World) (R Wr Em : List ByteArray) (r : Ending) (w' : World) : Prop :=
  ∃ b1 b2 b3, r = .returned (.agg #[.map (some b1), .map (some b2), .map (some b3)]) ∧ Sets w' b1 b2 b3 R Wr Em ∧ Below w.heap.size w w'

set_option maxRecDepth 100000 in
set_option maxHeartbeats 2000000 in
theorem used_any (F : Nat → Prop) (d : Nat) (p : Pr) (row : List Value) (w : World) (h : PrAt F d w row p) (hF : ∀ k, F k → k < w.heap.size) (hd : d ≤ 900) (hbig : p.params.length ≤ 1000000) :
    Calls Try.prog 35 #[.agg row.toArray] w (GivesU w (readsP d p) (writesP d p) (emitsP d p)) := by
  have hr := fun W (hW : Below w.heap.size w W) => right_any F d p row W (h.below hW) (by omega) hbig
  obtain ⟨okn, oks, okp, _, Ap, np, cp, Ab, nb, cb, rfl, hpl, hbl⟩ := h
  have hmm := @run_makeMap Try.prog
  have hnb := LsAt.n_le hbl
  have Hlen := Lib.hid (LsAt.len hbl)
  have hcnt : rightB d p = true → cntP d p ≤ 300 := fun h => by
    rw [rightB_eq] at h
    simp only [Bool.and_eq_true] at h
    exact (small_cnt hd h.1.2).1
  have hP1 : readsP d p = if rightB d p then p.body.flatMap (readsS d) else [] := rfl
  have hP2 : writesP d p = if rightB d p then p.body.flatMap (writesS d) else [] := rfl
  have hP3 : emitsP d p = if rightB d p then p.body.flatMap (emitsS d) else [] := rfl
  obtain ⟨q, Hq⟩ : ∃ q, Hid (rightB d p = q) := ⟨_, rfl⟩
  rw [Hq.out] at hr hcnt hP1 hP2 hP3
  have Hr := Lib.hid hr
  have HP1 := Lib.hid hP1
  have HP2 := Lib.hid hP2
  have HP3 := Lib.hid hP3
  clear hr hP1 hP2 hP3 hpl
  obtain ⟨w6, Hw6⟩ : ∃ w6, Hid (w6 = (((((w.alloc (.cells #[.string p.name, .string p.src, .string p.part, .int .i64 p.fuel, .slice Ap np cp, .slice Ab nb cb] 34)).alloc (.cells #[.map none, .map none, .map none] 73)).alloc (.map #[] 0)).alloc (.map #[] 0)).alloc (.map #[] 0)).alloc (.cells #[.map (some (w.heap.size + 1 + 1)), .map (some (w.heap.size + 1 + 1 + 1)), .map (some (w.heap.size + 1 + 1 + 1 + 1))] 73)) := ⟨_, rfl⟩
  have hb6 : Below w.heap.size w w6 := by rw [Hw6.out]; exact ((((((Below.refl _ _).alloc (Nat.le_refl _) _).alloc (by simp) _).alloc (by simp; omega) _).alloc (by simp; omega) _).alloc (by simp; omega) _).alloc (by simp; omega) _
  have hz6 : w6.heap.size = w.heap.size + 6 := by rw [Hw6.out]; simp
  have hx6 : IsBlk w6 w.heap.size 34 #[.string p.name, .string p.src, .string p.part, .int .i64 p.fuel, .slice Ap np cp, .slice Ab nb cb] := by rw [Hw6.out]; exact (((((IsBlk.laid _ _ _).alloc _).alloc _).alloc _).alloc _).alloc _
  have hr6 : IsBlk w6 (w.heap.size + 1) 73 #[.map none, .map none, .map none] := by rw [Hw6.out]; exact ((((laid_at (by simp) _ _).alloc _).alloc _).alloc _).alloc _
  have hu6 : IsBlk w6 (w.heap.size + 1 + 1 + 1 + 1 + 1) 73 #[.map (some (w.heap.size + 1 + 1)), .map (some (w.heap.size + 1 + 1 + 1)), .map (some (w.heap.size + 1 + 1 + 1 + 1))] := by rw [Hw6.out]; exact laid_at (by simp) _ _
  have hS6 : Sets w6 (w.heap.size + 1 + 1) (w.heap.size + 1 + 1 + 1) (w.heap.size + 1 + 1 + 1 + 1) [] [] [] := by
    rw [Hw6.out]
    exact ⟨(((use_laid (by simp)).alloc _).alloc _).alloc _, ((use_laid (by simp)).alloc _).alloc _, (use_laid (by simp)).alloc _, by omega, by omega, by omega⟩
  go_enter Try.func35, Try.ntmps35
  go_upto_region 2 with (fail)
  rw [← Hw6.out]
  have Hx6 := Lib.hid hx6
  have Hr6 := Lib.hid hr6
  have Hu6 := Lib.hid hu6
  have HS6 := Lib.hid hS6
  have Hz6 := Lib.hid hz6
  obtain ⟨i0, i1, i2, i3, i4, i5, il⟩ := prBox hx6
  clear hx6 hr6 hu6 hz6 hS6
  cases q
  · go_wp2_with (go_at_call 16; refine (Hr.out _ hb6).mono ?_; rintro x w7 ⟨rfl, hb7⟩; have hu7 := Hu6.out.as_was (hb7.block _ Hu6.out.lt); have hr7 := Hr6.out.as_was (hb7.block _ Hr6.out.lt); obtain ⟨j0, j1, j2, jl⟩ := usBox hu7; obtain ⟨r0, r1, r2, rl⟩ := usBox0 hr7; have rf := hr7.frozen)
    have hz7 := hb7.size
    have hz := Hz6.out
    obtain ⟨k1, k2⟩ := res_ok (g := w.heap.size + 1) (HS6.out.below hb7) (by omega) (by omega) (by omega) (hb6.trans (hb7.mono hb6.size)) (by omega) (.map (some (w.heap.size + 1 + 1))) (.map (some (w.heap.size + 1 + 1 + 1))) (.map (some (w.heap.size + 1 + 1 + 1 + 1)))
    refine bodyPost_ret (v := .agg #[.map (some (w.heap.size + 1 + 1)), .map (some (w.heap.size + 1 + 1 + 1)), .map (some (w.heap.size + 1 + 1 + 1 + 1))]) (by simp [results, Try.results35, go_sem, r0, r1, r2]) rfl ⟨_, _, _, rfl, ?_, k2⟩
    rw [HP1.out, HP2.out, HP3.out]
    exact k1
  · go_wp2_with (go_at_call 16; refine (Hr.out _ hb6).mono ?_; rintro x w7 ⟨rfl, hb7⟩; have hx7 := Hx6.out.as_was (hb7.block _ Hx6.out.lt); obtain ⟨j0, j1, j2, j3, j4, j5, jl⟩ := prBox hx7)
    have hz7 := hb7.size
    have hz := Hz6.out
    have hcnt' : cntP d p ≤ 300 := by simpa using hcnt
    have hb07 := hb6.trans (hb7.mono hb6.size)
    have hbl7 : StsAt (NB (w.heap.size + 1 + 1) (w.heap.size + 1 + 1 + 1) (w.heap.size + 1 + 1 + 1 + 1)) d w7 Ab nb cb p.body := StsAt.conv (fun k hk => by have := hF k hk; exact ⟨by omega, by omega, by omega⟩) (Kept.of_below hb07) (Nat.le_refl _) hbl
    have hS7 := HS6.out.below hb7
    have Hu7 := Lib.hid (Hu6.out.as_was (hb7.block _ Hu6.out.lt))
    have Hr7 := Lib.hid (Hr6.out.as_was (hb7.block _ Hr6.out.lt))
    have Hl7 := Lib.hid hbl7
    have Hs3 := Lib.hid (fun (W : World) (hW : But (S3 (w.heap.size + 1 + 1) (w.heap.size + 1 + 1 + 1) (w.heap.size + 1 + 1 + 1 + 1)) w7 W) => And.intro (usBox (Hu7.out.as_was (hW.block _ Hu7.out.lt (fun h => by rcases h with h | h | h <;> omega)))) (usBox0 (Hr7.out.as_was (hW.block _ Hr7.out.lt (fun h => by rcases h with h | h | h <;> omega)))))
    have Hfz := Lib.hid (fun (W : World) (hW : But (S3 (w.heap.size + 1 + 1) (w.heap.size + 1 + 1 + 1) (w.heap.size + 1 + 1 + 1 + 1)) w7 W) => (Hr7.out.as_was (hW.block _ Hr7.out.lt (fun h => by rcases h with h | h | h <;> omega))).frozen)
    clear hbl hbl7 hcnt
    go_loopw [15] (fun i wr => ∃ k : Nat, k ≤ nb ∧ i = .int .i64 k ∧ Sets wr (w.heap.size + 1 + 1) (w.heap.size + 1 + 1 + 1) (w.heap.size + 1 + 1 + 1 + 1) ((p.body.take k).flatMap (readsS d)) ((p.body.take k).flatMap (writesS d)) ((p.body.take k).flatMap (emitsS d)) ∧ But (S3 (w.heap.size + 1 + 1) (w.heap.size + 1 + 1 + 1) (w.heap.size + 1 + 1 + 1 + 1)) w7 wr) (fun i _ => nb - (intOf i).toNat)
    case atStart => exact ⟨0, Nat.zero_le _, rfl, by simpa using hS7, But.refl _ _⟩
    case round =>
      obtain ⟨k, hk, rfl, hS8, hB8⟩ := hrel
      obtain ⟨⟨u0, u1, u2, ul⟩, r0, r1, r2, rl⟩ := Hs3.out wr hB8
      have rf := Hfz.out wr hB8
      by_cases hlt : k < nb
      · cases d with
        | zero =>
          obtain ⟨b, o, r, e, hA, hbl, _, he, hl, hp, hc⟩ := LsAt.get (Hl7.out.kept (nb_kept hB8)) hlt
          exact hp.elim
        | succ d =>
          obtain ⟨b, o, x, Ac2, nc2, cc2, Ae2, ne2, ce2, Ab2, nb2, cb2, Al2, nl2, cl2, rfl, hbl, hx, hc0, hc1, hc2, hc3, hc4, hc5, hc6, hc7, hp, _⟩ := StsAt.get (Hl7.out.kept (nb_kept hB8)) hlt
          have Hx := Lib.hid hx
          clear hx
          have hbn : Below wr.heap.size wr (wr.alloc (.cells #[.int .i64 x.op, .string x.name, .string x.src, .int .i64 x.n, .slice Ac2 nc2 cc2, .slice Ae2 ne2 ce2, .slice Ab2 nb2 cb2, .slice Al2 nl2 cl2] 52)) := (Below.refl _ _).alloc (Nat.le_refl _) _
          have hUn := hS8.below hbn
          have t0 := sum_take (f := cntS (d + 1)) Hx.out
          have t1 := flat_cnt (readsS_le (d + 1)) (p.body.take k)
          have t2 := flat_cnt (writesS_le (d + 1)) (p.body.take k)
          have t3 := flat_cnt (emitsS_le (d + 1)) (p.body.take k)
          unfold cntP at hcnt'
          have Hc := Lib.hid (usesS_any (d + 1) _ _ _ x _ _ _ _ _ (hp.below hbn) hUn (by omega) (by omega) (by omega))
          clear t0 t1 t2 t3 hUn
          go_wp2_with (go_at_call 53; refine Hc.out.mono ?_; rintro y w8 ⟨rfl, hU8, hB9⟩)
          go_roundw
          case rel => exact ⟨k + 1, by omega, by go_num, by simp only [flat_take Hx.out]; exact hU8, (hB8.then_below hbn).trans' hB9⟩
          case measure => simp [intOf]; omega
      · go_wp2
        have hb08 : Below w.heap.size w wr := hb07.trans (hB8.below' hb07.size (fun i hi => by rcases hi with hi | hi | hi <;> omega))
        rw [List.take_of_length_le (by rw [Hlen.out]; omega)] at hS8
        obtain ⟨k1, k2⟩ := res_ok (g := w.heap.size + 1) hS8 (by omega) (by omega) (by omega) hb08 (by omega) (.map (some (w.heap.size + 1 + 1))) (.map (some (w.heap.size + 1 + 1 + 1))) (.map (some (w.heap.size + 1 + 1 + 1 + 1)))
        refine bodyPost_ret (v := .agg #[.map (some (w.heap.size + 1 + 1)), .map (some (w.heap.size + 1 + 1 + 1)), .map (some (w.heap.size + 1 + 1 + 1 + 1))]) (by simp [results, Try.results35, go_sem, r0, r1, r2]) rfl ⟨_, _, _, rfl, ?_, k2⟩
        rw [HP1.out, HP2.out, HP3.out]
        exact k1
end Go.Proofs.Ytgihhkfppnhdpaa
