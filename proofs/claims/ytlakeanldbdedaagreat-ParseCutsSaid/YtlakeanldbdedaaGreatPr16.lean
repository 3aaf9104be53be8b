/- Parts of this proof, one behind the other: ParG0, ParG, ParH. -/
import Derived.Test.YtlakeanldbdedaaGreatPr15
namespace Go.Proofs.YtlakeanldbdedaaGreat
open Go.RowKit Go.Afx

/-- a fresh tree is laid into the result's block: what is given -/
theorem gives_of {gp gc gw g : Nat} {W : Wds} {s' : PSt} {x : Ex} {w w3 w4 : World} {D : Nat} {A : Option Addr} {m c : Nat} {T : TypeId} {u0 u1 u2 u3 u4 u5 : Value}
    (hx : ExAt (Fr w3) D w4 [.int .i64 x.op, .int .i64 x.n, .string x.s, .string x.name, .string x.src, .slice A m c] x) (hP : PAt gp gc gw W s' w4) (hB : But (On2 gp gc) w w4) (hk : IsBlk w4 g T #[u0, u1, u2, u3, u4, u5]) (hg1 : w.heap.size ≤ g) (hg2 : g < w3.heap.size) (hz : gp < w.heap.size ∧ gc < w.heap.size ∧ gw < w.heap.size) :
    IsBlk (lay6 w4 g (.int .i64 x.op) (.int .i64 x.n) (.string x.s) (.string x.name) (.string x.src) (.slice A m c)) g T #[.int .i64 x.op, .int .i64 x.n, .string x.s, .string x.name, .string x.src, .slice A m c] ∧
    GivesE gp gc gw W s' x w (.returned (.agg #[.int .i64 x.op, .int .i64 x.n, .string x.s, .string x.name, .string x.src, .slice A m c])) (lay6 w4 g (.int .i64 x.op) (.int .i64 x.n) (.string x.s) (.string x.name) (.string x.src) (.slice A m c)) := by
  have hb7 := lay6_but w4 g (.int .i64 x.op) (.int .i64 x.n) (.string x.s) (.string x.name) (.string x.src) (.slice A m c)
  refine ⟨lay6_blk _ _ _ _ _ _ hk, _, D, rfl, ?_, hP.elsewhere hb7 (by omega), hB.trans hb7 (fun i hi => .inr (by omega))⟩
  exact ExAt.conv (fun k (hk : w3.heap.size ≤ k) => by show w.heap.size ≤ k; omega) (Kept.of_but hb7 fun k (hk : w3.heap.size ≤ k) e => by omega) D (Nat.le_refl _) hx
theorem ex_okS {F : Nat → Prop} {d : Nat} {w : World} {row : List Value} {e : Ex} (h : ExAt F d w row e) : okS e.s ∧ okS e.name ∧ okS e.src := by
  cases d with
  | zero => exact h.elim
  | succ d => obtain ⟨_, _, h1, h2, h3, _⟩ := h.open_; exact ⟨h1, h2, h3⟩
theorem name_ok {gp gc gw : Nat} {W : Wds} {s : PSt} {w : World} (h : PAt gp gc gw W s w) (s' : PSt) : okS (nameP W s').1 := by
  unfold nameP
  split
  · unfold okS; exact Nat.zero_le _
  · exact (h.okw _).2.1
theorem num_ok {gp gc gw : Nat} {W : Wds} {s : PSt} {w : World} (h : PAt gp gc gw W s w) (s' : PSt) : okI (numP W s').1 := by
  unfold numP
  split
  · constructor <;> simp
  · split
    · exact (h.okw _).2.2.1
    · constructor <;> simp

set_option maxHeartbeats 1000000 in
theorem pRows_any (gp gc gw : Nat) (W : Wds) (s : PSt) (w : World) (h : PAt gp gc gw W s w) :
    Calls Tryz.prog 119 #[.pointer (some ⟨gp, 0, none⟩)] w fun e w' => e = .returned (.tuple #[.string (rowsP W s).1.1, .string (rowsP W s).1.2]) ∧ PAt gp gc gw W (rowsP W s).2 w' ∧ But (On2 gp gc) w w' := by
  have Hn := Lib.hid (fun s' w2 (hW : PAt gp gc gw W s' w2) => pName_any gp gc gw W s' w2 hW)
  have Hm := Lib.hid (fun s' w2 (hW : PAt gp gc gw W s' w2) => pMust_any gp gc gw w2.heap.size W s' (str [105, 110]) w2 hW rfl)
  have Hh := Lib.hid h
  clear h
  show Calls _ _ _ _ fun e w' => e = .returned (.tuple #[.string (nameP W s).1, .string (nameP W (mustP W [str [105, 110]] (nameP W s).2)).1]) ∧ PAt gp gc gw W (nameP W (mustP W [str [105, 110]] (nameP W s).2)).2 w' ∧ But (On2 gp gc) w w'
  simp only [str] at Hm
  go_enter Tryz.func119, Tryz.ntmps119
  go_wp2_with (fail)
  refine (Hn.out _ _ Hh.out).mono ?_
  rintro e w2 ⟨rfl, hP, hB⟩
  have H2 := Lib.hid (And.intro hP hB)
  clear hP hB
  go_wp2_with (fail)
  refine (Hm.out _ _ H2.out.1).mono ?_
  rintro e w3 ⟨rfl, hP, hB⟩
  have H3 := Lib.hid (And.intro hP (H2.out.2.trans' hB))
  clear hP hB
  go_wp2_with (fail)
  refine (Hn.out _ _ H3.out.1).mono ?_
  rintro e w4 ⟨rfl, hP, hB⟩
  have H4 := Lib.hid (And.intro hP (H3.out.2.trans' hB))
  clear hP hB
  go_wp2
  go_ret2
  exact ⟨rfl, H4.out.1, H4.out.2⟩

/-- true -/
theorem true_at (F : Nat → Prop) (w : World) : ExAt F 1 w [.int .i64 3, .int .i64 1, .string ⟨#[]⟩, .string ⟨#[]⟩, .string ⟨#[]⟩, .slice none 0 0] (.mk 3 1 nil0 nil0 nil0 []) := by
  have h2 : okS nil0 := by unfold okS; exact Nat.zero_le _
  exact ⟨⟨by show (_ : Int) ≤ 3; omega, by show (3 : Int) ≤ _; omega⟩, ⟨by show (_ : Int) ≤ 1; omega, by show (1 : Int) ≤ _; omega⟩, h2, h2, h2, none, 0, 0, rfl, LsAt.nil_ _ _ _ _⟩
set_option maxHeartbeats 1000000 in
theorem pWhere_any (gp gc gw : Nat) (W : Wds) (E : PSt → Ex × PSt) (m : Nat) (hE : TakesE gp gc gw W 27 E m) : TakesE gp gc gw W 120 (whereP W E) m := by
  intro s w h hf
  have hz := And.intro h.lt.1 (And.intro h.lt.2 h.wl)
  have hb1 := (Below.refl w.heap.size w).alloc (Nat.le_refl _) (.cells zero6 41)
  have hk1 := IsBlk.laid w 41 zero6
  have h1 := h.below hb1
  have hm := pMay_any gp gc gw W s (str [119, 104, 101, 114, 101]) _ h1
  have hno := mayP_no (W := W) (s := s) (t := str [119, 104, 101, 114, 101])
  have hE2 := fun w2 hW => hE (mayP W (str [119, 104, 101, 114, 101]) s).2 w2 hW (hf.ge (ge_may W _ s))
  unfold whereP
  generalize (mayP W (str [119, 104, 101, 114, 101]) s) = r at *
  obtain ⟨v, s2⟩ := r
  simp only [str] at hm
  have Hm := Lib.hid hm
  have HE := Lib.hid hE2
  have Hb1 := Lib.hid hb1
  have Hk1 := Lib.hid hk1
  have Hz := Lib.hid hz
  clear hm hE2 hb1 hk1 hz h h1 hf hE
  cases v with
  | true =>
    clear hno
    show Calls _ _ _ _ (GivesE gp gc gw W (E s2).2 (E s2).1 w)
    simp only at HE
    generalize E s2 = fin at *
    go_enter Tryz.func120, Tryz.ntmps120
    go_wp2_with (fail)
    refine Hm.out.mono ?_
    rintro e w3 ⟨rfl, hP, hB⟩
    have H3 := Lib.hid (And.intro hP hB)
    clear hP hB
    go_wp2_with (fail)
    refine (HE.out _ H3.out.1).mono ?_
    rintro e w4 ⟨row, D, rfl, hx, hP, hB⟩
    obtain ⟨A2, m2, c2, rfl⟩ := ex_row6 hx
    have hB4 := H3.out.2.trans' hB
    have hk4 := on2_blk Hk1.out hB4 (by have := Hz.out; omega)
    obtain ⟨x0, x1, x2, x3, x4, x5, xl⟩ := cells6 hk4
    have f4 := hk4.frozen
    have hs := H3.out.2.size
    simp only [World.alloc, Array.size_push] at hs
    have H := Lib.hid (gives_of hx hP ((But.of_below Hb1.out).trans' hB4) hk4 (Nat.le_refl _) (by omega) Hz.out)
    clear hx hP hB hk4 hB4 hs
    go_wp2
    rw [lay6_eq]
    exact bodyPost_ret (ret_ex Tryz.results120 rfl H.out.1 rfl) rfl H.out.2
  | false =>
    obtain rfl := hno rfl
    show Calls _ _ _ _ (GivesE gp gc gw W s2 (.mk 3 1 nil0 nil0 nil0 []) w)
    go_enter Tryz.func120, Tryz.ntmps120
    go_wp2_with (fail)
    refine Hm.out.mono ?_
    rintro e w3 ⟨rfl, hP, hB⟩
    have hk4 := on2_blk Hk1.out hB (by have := Hz.out; omega)
    obtain ⟨x0, x1, x2, x3, x4, x5, xl⟩ := cells6 hk4
    have f4 := hk4.frozen
    have hs := hB.size
    simp only [World.alloc, Array.size_push] at hs
    have H := Lib.hid (gives_of (x := .mk 3 1 nil0 nil0 nil0 []) (w3 := w3) (true_at (Fr w3) w3) hP ((But.of_below Hb1.out).trans' hB) hk4 (Nat.le_refl _) (by omega) Hz.out)
    clear hP hB hk4 hs
    go_wp2
    rw [lay6_eq]
    exact bodyPost_ret (ret_ex Tryz.results120 rfl H.out.1 rfl) rfl H.out.2
end Go.Proofs.YtlakeanldbdedaaGreat

namespace Go.Proofs.YtlakeanldbdedaaGreat
open Go.RowKit Go.Afx

set_option maxRecDepth 100000 in
set_option maxHeartbeats 1000000 in
theorem pAhead_not (gp gc gw : Nat) (W : Wds) (one : PSt → Ex × PSt) (s : PSt) (op : Int) (w : World) (h : PAt gp gc gw W s w) (h0 : 0 ≤ op) (h1 : op ≤ 100) (hT : ∀ w2, PAt gp gc gw W (enterP s) w2 → Calls Tryz.prog 104 #[.pointer (some ⟨gp, 0, none⟩)] w2 (GivesE gp gc gw W (one (enterP s)).2 (one (enterP s)).1 w2)) :
    Calls Tryz.prog 133 #[.pointer (some ⟨gp, 0, none⟩), .int .i64 op, .func (.func 104) #[.pointer (some ⟨gp, 0, none⟩)] #[]] w (GivesE gp gc gw W (leaveP (one (enterP s)).2) (oneP op (one (enterP s)).1) w) := by
  have hz := And.intro h.lt.1 (And.intro h.lt.2 h.wl)
  have hb1 := (Below.refl w.heap.size w).alloc (Nat.le_refl _) (.cells zero6 41)
  have hk1 := IsBlk.laid w 41 zero6
  have He := Lib.hid (pEnter_any gp gc gw W s _ (h.below hb1))
  generalize hfin : one (enterP s) = fin at *
  have Hl := Lib.hid (fun w2 (hW : PAt gp gc gw W fin.2 w2) => pLeave_any gp gc gw W fin.2 w2 hW)
  have HT := Lib.hid hT
  have Hb1 := Lib.hid hb1
  have Hk1 := Lib.hid hk1
  have Hz := Lib.hid hz
  have H01 := Lib.hid (And.intro h0 h1)
  clear h hz hb1 hk1 hT hfin h0 h1
  obtain ⟨w1, Hw1⟩ : ∃ w1, Hid (w1 = w.alloc (.cells zero6 41)) := ⟨_, rfl⟩
  have hsz : w1.heap.size = w.heap.size + 1 := by rw [Hw1.out]; simp
  rw [← Hw1.out] at He Hb1 Hk1
  go_enter Tryz.func133, Tryz.ntmps133
  go_upto_region 1 with (fail)
  rw [← Hw1.out]
  go_wp2_with (fail)
  refine He.out.mono ?_
  rintro e w2 ⟨rfl, hP, hB⟩
  have H2 := Lib.hid (And.intro hP hB)
  clear hP hB
  go_wp2_with (fail)
  refine (HT.out _ H2.out.1).mono ?_
  rintro e w3 ⟨row, D, rfl, hx, hP, hB⟩
  obtain ⟨A2, m2, c2, rfl⟩ := ex_row6 hx
  have hB3 := H2.out.2.trans' hB
  have hz3 := hB3.size
  have hlit := exs_lit (F := Fr w1) (d := D) (n := 1) (g := w3.heap.size) (w := w3) 41 [[.int .i64 fin.1.op, .int .i64 fin.1.n, .string fin.1.s, .string fin.1.name, .string fin.1.src, .slice A2 m2 c2]] [fin.1] rfl hz3 rfl (by omega) rfl (fun k r x h1 h2 => by
    rcases k with _ | k
    · simp at h1 h2
      subst h1 h2
      exact ExAt.conv (fun k (hk : w2.heap.size ≤ k) => by have := H2.out.2.size; show w1.heap.size ≤ k; omega) (Kept.refl _ _) D (Nat.le_refl _) hx
    · simp at h1)
  have hop := ex_opn H01.out.1 H01.out.2 hlit
  simp only [List.flatten_cons, List.flatten_nil, List.append_nil] at hop
  have hb4 := (Below.refl w3.heap.size w3).alloc (Nat.le_refl _) (.cells #[.int .i64 fin.1.op, .int .i64 fin.1.n, .string fin.1.s, .string fin.1.name, .string fin.1.src, .slice A2 m2 c2] 41)
  have hb5 := (Below.refl (w3.alloc (.cells #[.int .i64 fin.1.op, .int .i64 fin.1.n, .string fin.1.s, .string fin.1.name, .string fin.1.src, .slice A2 m2 c2] 41)).heap.size (w3.alloc (.cells #[.int .i64 fin.1.op, .int .i64 fin.1.n, .string fin.1.s, .string fin.1.name, .string fin.1.src, .slice A2 m2 c2] 41))).alloc (Nat.le_refl _) (.cells #[.int .i64 op, .int .i64 0, .string ⟨#[]⟩, .string ⟨#[]⟩, .string ⟨#[]⟩, .slice (some ⟨w3.heap.size, 0, none⟩) 1 1] 41)
  have hx5 := hop.below hb5
  have hP5 := (hP.below hb4).below hb5
  have hk5 : IsBlk ((w3.alloc (.cells #[.int .i64 fin.1.op, .int .i64 fin.1.n, .string fin.1.s, .string fin.1.name, .string fin.1.src, .slice A2 m2 c2] 41)).alloc (.cells #[.int .i64 op, .int .i64 0, .string ⟨#[]⟩, .string ⟨#[]⟩, .string ⟨#[]⟩, .slice (some ⟨w3.heap.size, 0, none⟩) 1 1] 41)) (w3.heap.size + 1) 41 #[.int .i64 op, .int .i64 0, .string ⟨#[]⟩, .string ⟨#[]⟩, .string ⟨#[]⟩, .slice (some ⟨w3.heap.size, 0, none⟩) 1 1] := blk_new (by simp)
  have hB5 := (hB3.alloc (.cells #[.int .i64 fin.1.op, .int .i64 fin.1.n, .string fin.1.s, .string fin.1.name, .string fin.1.src, .slice A2 m2 c2] 41)).alloc (.cells #[.int .i64 op, .int .i64 0, .string ⟨#[]⟩, .string ⟨#[]⟩, .string ⟨#[]⟩, .slice (some ⟨w3.heap.size, 0, none⟩) 1 1] 41)
  have H5 := Lib.hid (And.intro hx5 (And.intro hP5 (And.intro hk5 (And.intro hB5 hz3))))
  clear hx hP hB hB3 hz3 hlit hop hb4 hb5 hx5 hP5 hk5 hB5
  go_wp2_with (fail)
  refine (Hl.out _ H5.out.2.1).mono ?_
  rintro e w6 ⟨rfl, hP, hB⟩
  have hB6 := H5.out.2.2.2.1.trans' hB
  have hk6 := on2_blk Hk1.out hB6 (by have := Hz.out; omega)
  have hk7 := on2_blk H5.out.2.2.1 hB (by have := Hz.out; have := H5.out.2.2.2.2; omega)
  obtain ⟨x0, x1, x2, x3, x4, x5, xl⟩ := cells6 hk6
  obtain ⟨y0, y1, y2, y3, y4, y5, yl⟩ := cells6 hk7
  have f6 := hk6.frozen
  have hx6 := H5.out.1.kept (fr_on2 (gp := gp) (gc := gc) hB (fun k (hk : w1.heap.size ≤ k) => by have := Hz.out; omega))
  have H := Lib.hid (gives_of (x := oneP op fin.1) (w3 := w1) hx6 hP ((But.of_below Hb1.out).trans' hB6) hk6 (Nat.le_refl _) (by omega) Hz.out)
  clear hP hB hB6 hk6 hk7 hx6
  go_wp2
  rw [lay6_eq]
  exact bodyPost_ret (ret_ex Tryz.results133 rfl H.out.1 rfl) rfl H.out.2
set_option maxRecDepth 100000 in
set_option maxHeartbeats 1000000 in
theorem pAhead_signed (gp gc gw : Nat) (W : Wds) (one : PSt → Ex × PSt) (s : PSt) (op : Int) (w : World) (h : PAt gp gc gw W s w) (h0 : 0 ≤ op) (h1 : op ≤ 100) (hT : ∀ w2, PAt gp gc gw W (enterP s) w2 → Calls Tryz.prog 162 #[.pointer (some ⟨gp, 0, none⟩)] w2 (GivesE gp gc gw W (one (enterP s)).2 (one (enterP s)).1 w2)) :
    Calls Tryz.prog 133 #[.pointer (some ⟨gp, 0, none⟩), .int .i64 op, .func (.func 162) #[.pointer (some ⟨gp, 0, none⟩)] #[]] w (GivesE gp gc gw W (leaveP (one (enterP s)).2) (oneP op (one (enterP s)).1) w) := by
  have hz := And.intro h.lt.1 (And.intro h.lt.2 h.wl)
  have hb1 := (Below.refl w.heap.size w).alloc (Nat.le_refl _) (.cells zero6 41)
  have hk1 := IsBlk.laid w 41 zero6
  have He := Lib.hid (pEnter_any gp gc gw W s _ (h.below hb1))
  generalize hfin : one (enterP s) = fin at *
  have Hl := Lib.hid (fun w2 (hW : PAt gp gc gw W fin.2 w2) => pLeave_any gp gc gw W fin.2 w2 hW)
  have HT := Lib.hid hT
  have Hb1 := Lib.hid hb1
  have Hk1 := Lib.hid hk1
  have Hz := Lib.hid hz
  have H01 := Lib.hid (And.intro h0 h1)
  clear h hz hb1 hk1 hT hfin h0 h1
  obtain ⟨w1, Hw1⟩ : ∃ w1, Hid (w1 = w.alloc (.cells zero6 41)) := ⟨_, rfl⟩
  have hsz : w1.heap.size = w.heap.size + 1 := by rw [Hw1.out]; simp
  rw [← Hw1.out] at He Hb1 Hk1
  go_enter Tryz.func133, Tryz.ntmps133
  go_upto_region 1 with (fail)
  rw [← Hw1.out]
  go_wp2_with (fail)
  refine He.out.mono ?_
  rintro e w2 ⟨rfl, hP, hB⟩
  have H2 := Lib.hid (And.intro hP hB)
  clear hP hB
  go_wp2_with (fail)
  refine (HT.out _ H2.out.1).mono ?_
  rintro e w3 ⟨row, D, rfl, hx, hP, hB⟩
  obtain ⟨A2, m2, c2, rfl⟩ := ex_row6 hx
  have hB3 := H2.out.2.trans' hB
  have hz3 := hB3.size
  have hlit := exs_lit (F := Fr w1) (d := D) (n := 1) (g := w3.heap.size) (w := w3) 41 [[.int .i64 fin.1.op, .int .i64 fin.1.n, .string fin.1.s, .string fin.1.name, .string fin.1.src, .slice A2 m2 c2]] [fin.1] rfl hz3 rfl (by omega) rfl (fun k r x h1 h2 => by
    rcases k with _ | k
    · simp at h1 h2
      subst h1 h2
      exact ExAt.conv (fun k (hk : w2.heap.size ≤ k) => by have := H2.out.2.size; show w1.heap.size ≤ k; omega) (Kept.refl _ _) D (Nat.le_refl _) hx
    · simp at h1)
  have hop := ex_opn H01.out.1 H01.out.2 hlit
  simp only [List.flatten_cons, List.flatten_nil, List.append_nil] at hop
  have hb4 := (Below.refl w3.heap.size w3).alloc (Nat.le_refl _) (.cells #[.int .i64 fin.1.op, .int .i64 fin.1.n, .string fin.1.s, .string fin.1.name, .string fin.1.src, .slice A2 m2 c2] 41)
  have hb5 := (Below.refl (w3.alloc (.cells #[.int .i64 fin.1.op, .int .i64 fin.1.n, .string fin.1.s, .string fin.1.name, .string fin.1.src, .slice A2 m2 c2] 41)).heap.size (w3.alloc (.cells #[.int .i64 fin.1.op, .int .i64 fin.1.n, .string fin.1.s, .string fin.1.name, .string fin.1.src, .slice A2 m2 c2] 41))).alloc (Nat.le_refl _) (.cells #[.int .i64 op, .int .i64 0, .string ⟨#[]⟩, .string ⟨#[]⟩, .string ⟨#[]⟩, .slice (some ⟨w3.heap.size, 0, none⟩) 1 1] 41)
  have hx5 := hop.below hb5
  have hP5 := (hP.below hb4).below hb5
  have hk5 : IsBlk ((w3.alloc (.cells #[.int .i64 fin.1.op, .int .i64 fin.1.n, .string fin.1.s, .string fin.1.name, .string fin.1.src, .slice A2 m2 c2] 41)).alloc (.cells #[.int .i64 op, .int .i64 0, .string ⟨#[]⟩, .string ⟨#[]⟩, .string ⟨#[]⟩, .slice (some ⟨w3.heap.size, 0, none⟩) 1 1] 41)) (w3.heap.size + 1) 41 #[.int .i64 op, .int .i64 0, .string ⟨#[]⟩, .string ⟨#[]⟩, .string ⟨#[]⟩, .slice (some ⟨w3.heap.size, 0, none⟩) 1 1] := blk_new (by simp)
  have hB5 := (hB3.alloc (.cells #[.int .i64 fin.1.op, .int .i64 fin.1.n, .string fin.1.s, .string fin.1.name, .string fin.1.src, .slice A2 m2 c2] 41)).alloc (.cells #[.int .i64 op, .int .i64 0, .string ⟨#[]⟩, .string ⟨#[]⟩, .string ⟨#[]⟩, .slice (some ⟨w3.heap.size, 0, none⟩) 1 1] 41)
  have H5 := Lib.hid (And.intro hx5 (And.intro hP5 (And.intro hk5 (And.intro hB5 hz3))))
  clear hx hP hB hB3 hz3 hlit hop hb4 hb5 hx5 hP5 hk5 hB5
  go_wp2_with (fail)
  refine (Hl.out _ H5.out.2.1).mono ?_
  rintro e w6 ⟨rfl, hP, hB⟩
  have hB6 := H5.out.2.2.2.1.trans' hB
  have hk6 := on2_blk Hk1.out hB6 (by have := Hz.out; omega)
  have hk7 := on2_blk H5.out.2.2.1 hB (by have := Hz.out; have := H5.out.2.2.2.2; omega)
  obtain ⟨x0, x1, x2, x3, x4, x5, xl⟩ := cells6 hk6
  obtain ⟨y0, y1, y2, y3, y4, y5, yl⟩ := cells6 hk7
  have f6 := hk6.frozen
  have hx6 := H5.out.1.kept (fr_on2 (gp := gp) (gc := gc) hB (fun k (hk : w1.heap.size ≤ k) => by have := Hz.out; omega))
  have H := Lib.hid (gives_of (x := oneP op fin.1) (w3 := w1) hx6 hP ((But.of_below Hb1.out).trans' hB6) hk6 (Nat.le_refl _) (by omega) Hz.out)
  clear hP hB hB6 hk6 hk7 hx6
  go_wp2
  rw [lay6_eq]
  exact bodyPost_ret (ret_ex Tryz.results133 rfl H.out.1 rfl) rfl H.out.2
end Go.Proofs.YtlakeanldbdedaaGreat

namespace Go.Proofs.YtlakeanldbdedaaGreat
open Go.RowKit Go.Afx

theorem may_cases (W : Wds) (t : ByteArray) (s : PSt) : mayP W t s = (false, s) ∨ (mayP W t s = (true, s.on) ∧ s.bad = false ∧ s.at_ < W.l.length) := by
  unfold mayP
  split
  · rename_i h
    unfold isP at h
    simp only [Bool.and_eq_true, Bool.not_eq_true'] at h
    exact .inr ⟨rfl, h.1, says_in h.2⟩
  · exact .inl rfl
theorem signedP_no {W : Wds} {E : PSt → Ex × PSt} {k : Nat} {s : PSt} (h : mayP W (str [45]) s = (false, s)) : signedP W E (k + 1) s = singleP W E s := by unfold signedP; simp [h]
theorem signedP_yes {W : Wds} {E : PSt → Ex × PSt} {k : Nat} {s : PSt} (h : mayP W (str [45]) s = (true, s.on)) : signedP W E (k + 1) s = (oneP 20 (signedP W E k (enterP s.on)).1, leaveP (signedP W E k (enterP s.on)).2) := by
  conv => lhs; unfold signedP
  simp [h]
set_option maxHeartbeats 1000000 in
theorem pSigned_fuel (gp gc gw : Nat) (W : Wds) (E : PSt → Ex × PSt) (m : Nat) (hS : TakesE gp gc gw W 169 (singleP W E) m) : ∀ (k : Nat), 1 ≤ k → ∀ (s : PSt) (w : World), PAt gp gc gw W s w → Fit W k s → Fit W m s →
    Calls Tryz.prog 162 #[.pointer (some ⟨gp, 0, none⟩)] w (GivesE gp gc gw W (signedP W E k s).2 (signedP W E k s).1 w) := by
  intro k
  induction k with
  | zero => intro h; omega
  | succ k ih =>
    intro _ s w h hf hfm
    have hz := And.intro h.lt.1 (And.intro h.lt.2 h.wl)
    have hb1 := (Below.refl w.heap.size w).alloc (Nat.le_refl _) (.cells zero6 41)
    have hk1 := IsBlk.laid w 41 zero6
    have hm := pMay_any gp gc gw W s (str [45]) _ (h.below hb1)
    have hsz : (w.alloc (.cells zero6 41)).heap.size = w.heap.size + 1 := by simp
    obtain ⟨w1, Hw1⟩ : ∃ w1, Hid (w1 = w.alloc (.cells zero6 41)) := ⟨_, rfl⟩
    rw [← Hw1.out] at hb1 hk1 hm hsz
    have Hb1 := Lib.hid hb1
    have Hk1 := Lib.hid hk1
    have Hz := Lib.hid hz
    rcases may_cases W (str [45]) s with hc | ⟨hc, hbad, hat⟩
    · rw [hc] at hm
      rw [signedP_no hc]
      simp only [str] at hm
      have Hm := Lib.hid hm
      have HS := Lib.hid (fun w2 hW => hS s w2 hW hfm)
      clear hb1 hk1 hz h hf hfm hm hc ih hS
      generalize singleP W E s = fin at *
      go_enter Tryz.func162, Tryz.ntmps162
      go_upto_region 1 with (fail)
      rw [← Hw1.out]
      go_wp2_with (fail)
      refine Hm.out.mono ?_
      rintro e w2 ⟨rfl, hP, hB⟩
      have H2 := Lib.hid (And.intro hP hB)
      clear hP hB
      go_wp2_with (fail)
      refine (HS.out _ H2.out.1).mono ?_
      rintro e w3 ⟨row, D, rfl, hx, hP, hB⟩
      obtain ⟨A2, m2, c2, rfl⟩ := ex_row6 hx
      have hB3 := H2.out.2.trans' hB
      have hk3 := on2_blk Hk1.out hB3 (by have := Hz.out; omega)
      obtain ⟨x0, x1, x2, x3, x4, x5, xl⟩ := cells6 hk3
      have f3 := hk3.frozen
      have hs := H2.out.2.size
      have H := Lib.hid (gives_of hx hP ((But.of_below Hb1.out).trans' hB3) hk3 (Nat.le_refl _) (by omega) Hz.out)
      clear hx hP hB hB3 hk3 hs
      go_wp2
      rw [lay6_eq]
      exact bodyPost_ret (ret_ex Tryz.results162 rfl H.out.1 rfl) rfl H.out.2
    · rw [hc] at hm
      rw [signedP_yes hc]
      simp only [str] at hm
      have hf1 : Fit W k s.on := Fit.on hf
      have hk0 : 1 ≤ k := by
        rcases hf1 with h1 | h1
        · rw [show s.on.bad = s.bad from rfl, hbad] at h1; cases h1
        · have : s.on.at_ = s.at_ + 1 := rfl
          omega
      have hih := fun w2 hW => ih hk0 (enterP s.on) w2 hW (hf1.ge (ge_enter _)) ((hfm.ge (ge_on s)).ge (ge_enter _))
      have Ha := Lib.hid (fun w2 hW => pAhead_signed gp gc gw W (signedP W E k) s.on 20 w2 hW (by omega) (by omega) hih)
      have Hm := Lib.hid hm
      clear hb1 hk1 hz h hf hfm hm hc ih hS hih hf1 hk0
      generalize signedP W E k (enterP s.on) = fin at *
      go_enter Tryz.func162, Tryz.ntmps162
      go_upto_region 1 with (fail)
      rw [← Hw1.out]
      go_wp2_with (fail)
      refine Hm.out.mono ?_
      rintro e w2 ⟨rfl, hP, hB⟩
      have H2 := Lib.hid (And.intro hP hB)
      clear hP hB
      go_wp2_with (fail)
      refine (Ha.out _ H2.out.1).mono ?_
      rintro e w3 ⟨row, D, rfl, hx, hP, hB⟩
      obtain ⟨A2, m2, c2, rfl⟩ := ex_row6 hx
      have hB3 := H2.out.2.trans' hB
      have hk3 := on2_blk Hk1.out hB3 (by have := Hz.out; omega)
      obtain ⟨x0, x1, x2, x3, x4, x5, xl⟩ := cells6 hk3
      have f3 := hk3.frozen
      have hs := H2.out.2.size
      have H := Lib.hid (gives_of hx hP ((But.of_below Hb1.out).trans' hB3) hk3 (Nat.le_refl _) (by omega) Hz.out)
      clear hx hP hB hB3 hk3 hs
      go_wp2
      rw [lay6_eq]
      exact bodyPost_ret (ret_ex Tryz.results162 rfl H.out.1 rfl) rfl H.out.2
theorem fit_all (W : Wds) (s : PSt) : Fit W W.fuel s := .inr (by unfold Wds.fuel; omega)
theorem pSigned_any (gp gc gw : Nat) (W : Wds) (E : PSt → Ex × PSt) (m : Nat) (hS : TakesE gp gc gw W 169 (singleP W E) m) : TakesE gp gc gw W 162 (signedP W E W.fuel) m :=
  fun s w h hf => pSigned_fuel gp gc gw W E m hS W.fuel (by unfold Wds.fuel; omega) s w h (fit_all W s) hf
end Go.Proofs.YtlakeanldbdedaaGreat
