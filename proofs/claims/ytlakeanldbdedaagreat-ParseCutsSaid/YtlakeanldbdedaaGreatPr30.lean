/- Parts of this proof, one behind the other: ParZ, SynE. -/
import Derived.Test.YtlakeanldbdedaaGreatPr29
import Derived.Test.YtlakeanldbdedaaGreatPr8
import Derived.Deep.RegionLaw
import Derived.Deep.RegionWith
namespace Go.Proofs.YtlakeanldbdedaaGreat
open Go.RowKit Go.Afx

def badOf (w : World) (gp : Nat) : Nat := match w.cell? ⟨gp, 3, none⟩ with | some (.bool b) => if b then 0 else 1 | _ => 0
theorem badOf_eq {gp gc gw : Nat} {W : Wds} {s : PSt} {w : World} (h : PAt gp gc gw W s w) : badOf w gp = if s.bad then 0 else 1 := by
  unfold badOf
  rw [(cells4 h.blk).2.2.2.1]
theorem stmtsP_go {W : Wds} {one : PSt → St × PSt} {f : Nat} {l : List St} {s : PSt} : stmtsP W one (f + 1) l s = if !s.bad && !isP W s (str [125]) then stmtsP W one f (l ++ [(one s).1]) (one s).2 else (l, s) := rfl
theorem stmtsP_stop {W : Wds} {one : PSt → St × PSt} {f : Nat} {l : List St} {s : PSt} (h : (!s.bad && !isP W s (str [125])) = false) : stmtsP W one f l s = (l, s) := by
  cases f with
  | zero => rfl
  | succ f => rw [stmtsP_go, if_neg (by rw [h]; decide)]
theorem blockP_eq (W : Wds) (f : Nat) (s : PSt) : blockP W (f + 1) s = ((stmtsP W (stmtP W (blockP W f)) W.fuel [] (enterP (mustP W [str [123]] s))).1, leaveP (mustP W [str [125]] (stmtsP W (stmtP W (blockP W f)) W.fuel [] (enterP (mustP W [str [123]] s))).2)) := rfl
theorem must_more (W : Wds) (t : ByteArray) (s : PSt) : (mustP W [t] s).bad = true ∨ s.at_ + 1 ≤ (mustP W [t] s).at_ := by
  unfold mustP mustP
  split
  · rename_i h; exact .inr (by rw [(may_yes h).1]; exact Nat.le_refl _)
  · exact .inl rfl
theorem pIs_any {gp gc gw : Nat} {W : Wds} {s : PSt} {w : World} (h : PAt gp gc gw W s w) (t : ByteArray) (g : Nat) (hg : g = w.heap.size) :
    Calls Tryz.prog 41 #[.pointer (some ⟨gc, 0, none⟩), .slice (some ⟨g, 0, none⟩) 1 1] (w.alloc (.cells #[.string t] 9)) fun e w' => e = .returned (.bool (isP W s t)) ∧ PAt gp gc gw W s w' ∧ Below w.heap.size w w' := by
  have h1 := look_any_of h [t] 1 g hg rfl (by omega)
  have e : [t].any (W.look s.at_).says = isP W s t := by simp [isP]
  rw [e] at h1
  exact h1
set_option maxRecDepth 100000 in
set_option maxHeartbeats 4000000 in
theorem pBlock_any (gp gc gw : Nat) (W : Wds) (hW : W.l.length ≤ 1000000) (f : Nat) (hS : TakesS gp gc gw W f) : TakesB gp gc gw W (f + 1) := by
  intro s w h hf _
  have hz := And.intro h.lt.1 (And.intro h.lt.2 h.wl)
  have hmax := hW
  rw [blockP_eq]
  have hm1 := pMust_any gp gc gw w.heap.size W s (str [123]) w h rfl
  have hmore := must_more W (str [123]) s
  have hge := ge_must W (str [123]) s
  generalize mustP W [str [123]] s = sm at *
  simp only [str] at hm1
  have hen := fun w2 (hW : PAt gp gc gw W sm w2) => pEnter_any gp gc gw W sm w2 hW
  have hmore2 : (enterP sm).bad = true ∨ s.at_ + 1 ≤ (enterP sm).at_ := hmore.imp (ge_enter sm).2 (fun e => Nat.le_trans e (ge_enter sm).1)
  have hge2 := hge.trans (ge_enter sm)
  generalize enterP sm = se at *
  have hup := stmt_more W (up_block W f)
  have hS2 : ∀ s' w2, PAt gp gc gw W s' w2 → Fit W f s' → 1 ≤ f → Calls Tryz.prog 89 #[.pointer (some ⟨gp, 0, none⟩)] w2 (GivesS gp gc gw W (stmtP W (blockP W f) s').2 (stmtP W (blockP W f) s').1 w2) := hS
  generalize stmtP W (blockP W f) = one at *
  generalize hfin : stmtsP W one W.fuel [] se = fin at *
  have Hfin := Lib.hid hfin.symm
  have Hz := Lib.hid hz
  have Hmax := Lib.hid hmax
  have Hm1 := Lib.hid hm1
  have Hen := Lib.hid hen
  have Hmore := Lib.hid (And.intro hmore2 (And.intro hf hge2))
  have Hup := Lib.hid hup
  have HS := Lib.hid hS2
  have HM := Lib.hid (fun s' w2 (hW : PAt gp gc gw W s' w2) => pMust_any gp gc gw w2.heap.size W s' (str [125]) w2 hW rfl)
  have HI := Lib.hid (fun s' w2 (hW : PAt gp gc gw W s' w2) => pIs_any hW (str [125]) w2.heap.size rfl)
  have HL := Lib.hid (fun s' w2 (hW : PAt gp gc gw W s' w2) => pLeave_any gp gc gw W s' w2 hW)
  clear hfin hz hmax hm1 hen hmore hmore2 hge hge2 hup hS hS2 h hf
  go_enter Tryz.func48, Tryz.ntmps48
  go_wp2_with (fail)
  refine Hm1.out.mono ?_
  rintro e w2 ⟨rfl, hP, hB⟩
  have H2 := Lib.hid (And.intro hP hB)
  clear hP hB
  go_wp2_with (fail)
  refine (Hen.out _ H2.out.1).mono ?_
  rintro e w3 ⟨rfl, hP, hB⟩
  have hB3 : But (fun k => k = gp ∨ k = gc ∨ w.heap.size ≤ k) w w3 := (H2.out.2.trans' hB).mono fun i hi => .inl (by rcases hi with e | e; exact .inl e; exact .inr (.inl e))
  have H3 := Lib.hid (And.intro hP hB3)
  clear hP hB hB3
  go_wp2
  go_loopw [3] (fun v wr => ∃ (s' : PSt) (xs : List St) (k : Nat) (A : Option Addr) (c : Nat), v = .slice A xs.length c ∧ PAt gp gc gw W s' wr ∧ (∃ rows D, StsOwn w.heap.size wr A c rows D xs) ∧ But (fun k => k = gp ∨ k = gc ∨ w.heap.size ≤ k) w wr ∧ Hid (fin = stmtsP W one k xs s') ∧ Hid (Fit W k s' ∧ Fit W f s' ∧ (s'.bad = false → xs.length ≤ s'.at_))) (fun _ wr => 2 * (W.l.length - atOf wr gc) + badOf wr gp)
  case atStart =>
    refine ⟨se, [], W.fuel, none, 0, rfl, H3.out.1, ⟨[], 0, StsOwn.nil_ _ _⟩, H3.out.2, Hfin, Lib.hid ⟨.inr (by unfold Wds.fuel; omega), ?_, fun _ => by simp⟩⟩
    have h1 := Hmore.out.1
    have h2 := Hmore.out.2
    rcases h1 with h1 | h1
    · exact .inl h1
    · rcases h2.1 with h3 | h3
      · exact .inl (h2.2.2 h3)
      · exact .inr (by omega)
  case round =>
    obtain ⟨s', xs, k, A, c, rfl, hP, ⟨rows, D, hL⟩, hB, HF, HS'⟩ := hrel
    obtain ⟨hfit, hfitf, hxl⟩ := HS'.out
    have hle := hP.le
    have hat0 := atOf_eq hP
    have hbd0 := badOf_eq hP
    obtain ⟨d0, d1, d2, d3, dg⟩ := cells4 hP.blk
    have hI := HI.out s' wr hP
    have hM := fun w2 hW => HM.out s' w2 hW
    have hgo := HF.out
    have H := Lib.hid (And.intro hP (And.intro hL hB))
    cases hbad : s'.bad with
    | true =>
      rw [stmtsP_stop (by rw [hbad]; rfl)] at hgo
      subst hgo
      rw [hbad] at d3
      generalize mustP W [str [125]] s' = sm' at *
      simp only [str] at hM
      have HM' := Lib.hid hM
      clear hM hI hfit hfitf hxl hle hat0 hbd0 hbad HF HS' hP hL hB HI
      go_wp2_with (fail)
      refine (HM'.out _ H.out.1).mono ?_
      rintro e w6 ⟨rfl, hP6, hB6⟩
      have hz := Hz.out
      have hL6 := H.out.2.1.keep hB6 (fun k hk => by rcases hk with e | e <;> omega)
      have H6 := Lib.hid (And.intro hP6 (And.intro hL6 (H.out.2.2.trans hB6 (fun i hi => .inl (by rcases hi with e | e; exact .inl e; exact .inr (.inl e))))))
      clear hP6 hB6 hL6 hz
      go_wp2_with (fail)
      refine (HL.out _ _ H6.out.1).mono ?_
      rintro e w7 ⟨rfl, hP7, hB7⟩
      have hz := Hz.out
      have hL7 := H6.out.2.1.keep hB7 (fun k hk => by rcases hk with e | e <;> omega)
      have hB8 := H6.out.2.2.trans hB7 (fun i hi => .inl (by rcases hi with e | e; exact .inl e; exact .inr (.inl e)))
      have hB9 : But (On2 gp gc) w w7 := (But.refl (On2 gp gc) w).trans hB8 (fun i hi => by rcases hi with e | e | e; exact .inl (.inl e); exact .inl (.inr e); exact .inr e)
      have H7 := Lib.hid (And.intro hP7 (And.intro hL7.list hB9))
      clear hP7 hB7 hL7 hB8 hB9 hz
      go_wp2
      go_ret
      exact ⟨A, _, c, D, rfl, H7.out.2.1, H7.out.1, H7.out.2.2⟩
    | false =>
      rw [hbad] at d3
      cases hi : isP W s' (str [125]) with
      | true =>
        rw [stmtsP_stop (by rw [hbad, hi]; rfl)] at hgo
        subst hgo
        rw [hi] at hI
        generalize mustP W [str [125]] s' = sm' at *
        simp only [str] at hM hI
        have HM' := Lib.hid hM
        have HI' := Lib.hid hI
        clear hM hI hfit hfitf hxl hle hat0 hbd0 hbad hi HF HS' hP hL hB HI
        go_wp2_with (fail)
        refine HI'.out.mono ?_
        rintro e w4 ⟨rfl, hP4, hB4⟩
        have hb4 : But (fun _ => False) wr w4 := But.of_below hB4
        have H4 := Lib.hid (And.intro hP4 (And.intro (H.out.2.1.keep hb4 (fun _ h => h.elim)) (H.out.2.2.trans hb4 (fun _ h => h.elim))))
        clear hP4 hB4 hb4
        go_wp2_with (fail)
        refine (HM'.out _ H4.out.1).mono ?_
        rintro e w6 ⟨rfl, hP6, hB6⟩
        have hz := Hz.out
        have hL6 := H4.out.2.1.keep hB6 (fun k hk => by rcases hk with e | e <;> omega)
        have H6 := Lib.hid (And.intro hP6 (And.intro hL6 (H4.out.2.2.trans hB6 (fun i hi => .inl (by rcases hi with e | e; exact .inl e; exact .inr (.inl e))))))
        clear hP6 hB6 hL6 hz
        go_wp2_with (fail)
        refine (HL.out _ _ H6.out.1).mono ?_
        rintro e w7 ⟨rfl, hP7, hB7⟩
        have hz := Hz.out
        have hL7 := H6.out.2.1.keep hB7 (fun k hk => by rcases hk with e | e <;> omega)
        have hB8 := H6.out.2.2.trans hB7 (fun i hi => .inl (by rcases hi with e | e; exact .inl e; exact .inr (.inl e)))
        have hB9 : But (On2 gp gc) w w7 := (But.refl (On2 gp gc) w).trans hB8 (fun i hi => by rcases hi with e | e | e; exact .inl (.inl e); exact .inl (.inr e); exact .inr e)
        have H7 := Lib.hid (And.intro hP7 (And.intro hL7.list hB9))
        clear hP7 hB7 hL7 hB8 hB9 hz
        go_wp2
        go_ret
        exact ⟨A, _, c, D, rfl, H7.out.2.1, H7.out.1, H7.out.2.2⟩
      | false =>
        obtain ⟨k, rfl⟩ : ∃ k', k = k' + 1 := by
          rcases hfit with e | e
          · rw [hbad] at e; cases e
          · exact ⟨k - 1, by omega⟩
        have hf1 : 1 ≤ f := by
          rcases hfitf with e | e
          · rw [hbad] at e; cases e
          · omega
        rw [stmtsP_go, if_pos (by rw [hbad, hi]; rfl)] at hgo
        rw [hi] at hI
        simp only [str] at hI
        have hup := Hup.out s'
        have hst := fun w2 hW => HS.out s' w2 hW hfitf hf1
        have hxl := hxl hbad
        have hmeas : 2 * (W.l.length - (one s').2.at_) + (if (one s').2.bad then 0 else 1) < 2 * (W.l.length - s'.at_) + (if s'.bad then 0 else 1) ∨ W.l.length < (one s').2.at_ := by
          rw [hbad]
          rcases hup.2 with e | e
          · rw [e]
            have := hup.1.1
            simp
            omega
          · rcases Nat.lt_or_ge W.l.length (one s').2.at_ with h | h
            · exact .inr h
            · left
              simp only [Bool.false_eq_true, if_false]
              split <;> omega
        have hfit2 : Fit W k (one s').2 ∧ Fit W f (one s').2 ∧ ((one s').2.bad = false → (xs ++ [(one s').1]).length ≤ (one s').2.at_) := by
          have e1 : W.l.length < s'.at_ + (k + 1) := hfit.elim (fun e => by rw [hbad] at e; cases e) id
          refine ⟨?_, hfitf.ge hup.1, fun e => ?_⟩
          · rcases hup.2 with e | e
            · exact .inl e
            · exact .inr (by omega)
          · rcases hup.2 with e2 | e2
            · rw [e] at e2; cases e2
            · simp; omega
        generalize one s' = r at *
        obtain ⟨x, sx⟩ := r
        simp only at hgo hup hst hmeas hfit2
        have Hst := Lib.hid hst
        have HI' := Lib.hid hI
        have Hgo := Lib.hid hgo
        have Hmeas := Lib.hid hmeas
        have Hfit2 := Lib.hid hfit2
        have H0 := Lib.hid (And.intro hat0 hbd0)
        have Hxl := Lib.hid (And.intro hxl hle)
        clear hM hI hfit hfitf hxl hle hat0 hbd0 hbad hi HF HS' hP hL hB HI hst hgo hmeas hfit2 hup
        go_wp2_with (fail)
        refine HI'.out.mono ?_
        rintro e w4 ⟨rfl, hP4, hB4⟩
        have hb4 : But (fun _ => False) wr w4 := But.of_below hB4
        have H4 := Lib.hid (And.intro hP4 (And.intro (H.out.2.1.keep hb4 (fun _ h => h.elim)) (H.out.2.2.trans hb4 (fun _ h => h.elim))))
        clear hP4 hB4 hb4
        go_wp2_with (fail)
        refine (Hst.out _ H4.out.1).mono ?_
        rintro e w5 ⟨row, D5, rfl, hx, hP5, hB5⟩
        obtain ⟨Ac, nc, cc, Ae, ne, ce, Ab, nb, cb, Al, nl, cl, rfl⟩ := st_row8 hx
        have hz := Hz.out
        have hn4 := H4.out.2.2.size
        have hs5 := hB5.size
        have hL5 := H4.out.2.1.keep hB5 (fun k hk => by rcases hk with e | e <;> omega)
        have hal5 := (Below.refl w5.heap.size w5).alloc (Nat.le_refl _) (.cells #[.int .i64 x.op, .string x.name, .string x.src, .int .i64 x.n, .slice Ac nc cc, .slice Ae ne ce, .slice Ab nb cb, .slice Al nl cl] 58)
        have hown5 := own_below hL5.own hal5
        have hnew : RowsAt (w5.alloc (.cells #[.int .i64 x.op, .string x.name, .string x.src, .int .i64 x.n, .slice Ac nc cc, .slice Ae ne ce, .slice Ab nb cb, .slice Al nl cl] 58)) 8 (some ⟨w5.heap.size, 0, none⟩) 1 1 [[.int .i64 x.op, .string x.name, .string x.src, .int .i64 x.n, .slice Ac nc cc, .slice Ae ne ce, .slice Ab nb cb, .slice Al nl cl]] := RowsAt.lit' _ _ 1 rfl rfl (by simp) rfl (by unfold maxLen; omega)
        have hmx : xs.length + 1 ≤ maxLen := by have := Hxl.out; have := Hmax.out; unfold maxLen; omega
        have hby : (xs.length + 1) * 144 ≤ 140737488355328 := by have := Hxl.out; have := Hmax.out; omega
        have hba : w.heap.size ≤ (w5.alloc (.cells #[.int .i64 x.op, .string x.name, .string x.src, .int .i64 x.n, .slice Ac nc cc, .slice Ae ne ce, .slice Ab nb cb, .slice Al nl cl] 58)).heap.size := by simp; omega
        have HP5 := Lib.hid (And.intro hP5 (And.intro hB5 hx))
        have Hal5 := Lib.hid hal5
        have Hnew := Lib.hid hnew
        have Hown5 := Lib.hid hown5
        have Hnum := Lib.hid (And.intro hmx (And.intro hby (And.intro hba hn4)))
        clear hP5 hB5 hx hal5 hL5 hown5 hnew hmx hby hba hz hn4 hs5
        go_wp2_with (at_builtin; refine wpList_app (base := w.heap.size) (xs := rows) (news := [[.int .i64 x.op, .string x.name, .string x.src, .int .i64 x.n, .slice Ac nc cc, .slice Ae ne ce, .slice Ab nb cb, .slice Al nl cl]]) rfl rfl tyStt rfl Hown5.out rfl Hnew.out (by simp) (by simp [Value.oneCell']) Hnum.out.1 Hnum.out.2.1 Hnum.out.2.2.1 ?_; intro A6 c6 w6 hown6 hbut6 hf6)
        have hpush := StsOwn.push H4.out.2.1 Hz.out Hnum.out.2.2.2 HP5.out.2.1 HP5.out.2.2 HP5.out.1 Hal5.out hown6 hbut6 hf6
        have hm6 : 2 * (W.l.length - atOf w6 gc) + badOf w6 gp < 2 * (W.l.length - atOf wr gc) + badOf wr gp := by
          rw [atOf_eq hpush.1, badOf_eq hpush.1, H0.out.1, H0.out.2]
          rcases Hmeas.out with e | e
          · exact e
          · exact absurd hpush.1.le (by omega)
        have H6 := Lib.hid (And.intro hpush (H4.out.2.2.trans hpush.2.2 (fun i hi => .inl hi)))
        have Hm6 := Lib.hid hm6
        clear hown6 hbut6 hf6 hpush hm6
        go_wp2
        go_roundw
        case rel => exact ⟨sx, xs ++ [x], k, A6, c6, by simp, H6.out.1.1, ⟨_, _, H6.out.1.2.1⟩, H6.out.2, Hgo, Hfit2⟩
        case measure => exact Hm6.out
end Go.Proofs.YtlakeanldbdedaaGreat

namespace Go.Proofs.YtlakeanldbdedaaGreat
open Go.RowKit Go.Afx

theorem noS_nil (s : ByteArray) : noS s = s.toList.isEmpty := by
  unfold noS
  rw [Bool.eq_iff_iff, decide_eq_true_iff, List.isEmpty_iff]
  have h0 : ByteArray.empty.toList = [] := by rw [ByteArray.toList_eq]; rfl
  constructor
  · rintro rfl; exact h0
  · intro h
    exact bs_inj (h.trans h0.symm)

theorem strs_one {w : World} {g : Nat} (T : TypeId) (a : ByteArray) (hg : g = w.heap.size) (ha : okS a) : LsAt (fun _ => True) (w.alloc (.cells #[.string a] T)) 1 SRow (some ⟨g, 0, none⟩) 1 1 [a] :=
  ⟨[[.string a]], RowsAt.lit' _ _ 1 hg rfl (by simp) rfl (by unfold maxLen; omega), fun _ _ _ => trivial, rfl, fun k r x hr hx => by
    cases k with
    | zero => simp at hr hx; subst hr hx; exact ⟨rfl, rfl, ha⟩
    | succ k => simp at hr⟩
theorem strs_two {w : World} {g : Nat} (T : TypeId) (a b : ByteArray) (hg : g = w.heap.size) (ha : okS a) (hb : okS b) : LsAt (fun _ => True) (w.alloc (.cells #[.string a, .string b] T)) 1 SRow (some ⟨g, 0, none⟩) 2 2 [a, b] :=
  ⟨[[.string a], [.string b]], RowsAt.lit' _ _ 2 hg rfl (by simp) rfl (by unfold maxLen; omega), fun _ _ _ => trivial, rfl, fun k r x hr hx => by
    match k with
    | 0 => simp at hr hx; subst hr hx; exact ⟨rfl, rfl, ha⟩
    | 1 => simp at hr hx; subst hr hx; exact ⟨rfl, rfl, hb⟩
    | k + 2 => simp at hr⟩
theorem LsAt.drew {α : Type} {F : Nat → Prop} {w : World} {sz : Nat} {P : List Value → α → Prop} {A : Option Addr} {n c : Nat} {xs : List α} (h : LsAt F w sz P A n c xs) : LsAt F w.drew sz P A n c xs := h.below (Below.refl _ _).drew

section
variable (n : Int) (s name src : ByteArray) (A : Option Addr) (m c : Nat) (w : World)

set_option maxRecDepth 100000 in
set_option maxHeartbeats 1000000 in
theorem fields_1 : Calls Tryz.prog 106 #[.agg #[.int .i64 1, .int .i64 n, .string s, .string name, .string src, .slice A m c]] w fun x w' => x = .returned (.bool (fieldsR 1 n s name src)) ∧ Below w.heap.size w w' := by
  have ha := fun W => args_any 1 W
  have hr : rowsB 1 = false := rfl
  rw [hr] at ha
  have Ha := Lib.hid ha
  clear ha
  by_cases hn : 0 ≤ n
  · go_enter Tryz.func106, Tryz.ntmps106
    go_wp2_with (go_at_call 105; refine (Ha.out _).mono ?_; rintro x w' ⟨rfl, rfl⟩)
    go_region
    all_goals go_wp2
    all_goals
      go_ret
      refine ⟨ret_bool ?_, ?_⟩
      · simp_all [fieldsR, noS_nil]
        try omega
      · repeat (first | exact Below.refl _ _ | refine Below.drew ?_ | refine Below.alloc ?_ (by simp) _ | refine Below.setCell ?_ (by simp) _)
  · have hd : decide (0 ≤ n) = false := by simpa using hn
    go_enter Tryz.func106, Tryz.ntmps106
    go_wp2_with (go_at_call 105; refine (Ha.out _).mono ?_; rintro x w' ⟨rfl, rfl⟩)
    go_region
    all_goals go_wp2
    all_goals
      go_ret
      refine ⟨ret_bool ?_, ?_⟩
      · simp_all [fieldsR, noS_nil]
        try omega
      · repeat (first | exact Below.refl _ _ | refine Below.drew ?_ | refine Below.alloc ?_ (by simp) _ | refine Below.setCell ?_ (by simp) _)

set_option maxRecDepth 100000 in
set_option maxHeartbeats 1000000 in
theorem fields_2 : Calls Tryz.prog 106 #[.agg #[.int .i64 2, .int .i64 n, .string s, .string name, .string src, .slice A m c]] w fun x w' => x = .returned (.bool (fieldsR 2 n s name src)) ∧ Below w.heap.size w w' := by
  have ha := fun W => args_any 2 W
  have hr : rowsB 2 = false := rfl
  rw [hr] at ha
  have Ha := Lib.hid ha
  clear ha
  by_cases hs : s.size ≤ 200
  · go_enter Tryz.func106, Tryz.ntmps106
    go_wp2_with (go_at_call 105; refine (Ha.out _).mono ?_; rintro x w' ⟨rfl, rfl⟩)
    go_region
    all_goals go_wp2
    all_goals
      go_ret
      refine ⟨ret_bool ?_, ?_⟩
      · simp_all [fieldsR, noS_nil]
        try omega
      · repeat (first | exact Below.refl _ _ | refine Below.drew ?_ | refine Below.alloc ?_ (by simp) _ | refine Below.setCell ?_ (by simp) _)
  · have hd : decide (s.size ≤ 200) = false := by simpa using hs
    go_enter Tryz.func106, Tryz.ntmps106
    go_wp2_with (go_at_call 105; refine (Ha.out _).mono ?_; rintro x w' ⟨rfl, rfl⟩)
    go_region
    all_goals go_wp2
    all_goals
      go_ret
      refine ⟨ret_bool ?_, ?_⟩
      · simp_all [fieldsR, noS_nil]
        try omega
      · repeat (first | exact Below.refl _ _ | refine Below.drew ?_ | refine Below.alloc ?_ (by simp) _ | refine Below.setCell ?_ (by simp) _)

set_option maxRecDepth 100000 in
set_option maxHeartbeats 1000000 in
theorem fields_3 : Calls Tryz.prog 106 #[.agg #[.int .i64 3, .int .i64 n, .string s, .string name, .string src, .slice A m c]] w fun x w' => x = .returned (.bool (fieldsR 3 n s name src)) ∧ Below w.heap.size w w' := by
  have ha := fun W => args_any 3 W
  have hr : rowsB 3 = false := rfl
  rw [hr] at ha
  have Ha := Lib.hid ha
  clear ha
  go_enter Tryz.func106, Tryz.ntmps106
  go_wp2_with (go_at_call 105; refine (Ha.out _).mono ?_; rintro x w' ⟨rfl, rfl⟩)
  go_region
  all_goals go_wp2
  all_goals
    go_ret
    refine ⟨ret_bool ?_, ?_⟩
    · simp_all [fieldsR, noS_nil]
      try omega
    · repeat (first | exact Below.refl _ _ | refine Below.drew ?_ | refine Below.alloc ?_ (by simp) _ | refine Below.setCell ?_ (by simp) _)

set_option maxRecDepth 100000 in
set_option maxHeartbeats 1000000 in
theorem fields_other (op : Int) (ho : op < 1 ∨ 5 < op) (hr0 : op < 21 ∨ 24 < op) : Calls Tryz.prog 106 #[.agg #[.int .i64 op, .int .i64 n, .string s, .string name, .string src, .slice A m c]] w fun x w' => x = .returned (.bool (fieldsR op n s name src)) ∧ Below w.heap.size w w' := by
  have ha := fun W => args_any op W
  have hr : rowsB op = false := by simp [rowsB]; omega
  rw [hr] at ha
  have Ha := Lib.hid ha
  clear ha
  have e1 : (op == 1) = false := by simp; omega
  have e2 : (op == 2) = false := by simp; omega
  have e3 : (op == 3) = false := by simp; omega
  have e4 : (op == 4) = false := by simp; omega
  have e5 : (op == 5) = false := by simp; omega
  have Hr := Lib.hid hr
  clear hr
  go_enter Tryz.func106, Tryz.ntmps106
  go_wp2_with (go_at_call 105; refine (Ha.out _).mono ?_; rintro x w' ⟨rfl, rfl⟩)
  all_goals
    go_ret
    refine ⟨ret_bool ?_, ?_⟩
    · simp_all [fieldsR, noS_nil, Hr.out]
      try omega
    · repeat (first | exact Below.refl _ _ | refine Below.drew ?_ | refine Below.alloc ?_ (by simp) _ | refine Below.setCell ?_ (by simp) _)
end
end Go.Proofs.YtlakeanldbdedaaGreat
