/- Parts of this proof, one behind the other: LwA, LwR. -/
import Derived.Test.YtlakeanldbdedaaGreatPr47
import Derived.Test.YtlakeanldbdedaaGreatPr48
namespace Go.Proofs.YtlakeanldbdedaaGreat
open Go.RowKit Go.Afx

def wantP : Pr := ⟨str [112], nil0, nil0, 100, [⟨str [120], 1⟩], [.mk 10 nil0 nil0 0 [] [.mk 6 0 nil0 nil0 nil0 [.mk 4 0 nil0 (str [120]) nil0 [], .mk 1 1 nil0 nil0 nil0 []]] [] []]⟩
def wantT : List UInt8 := [112, 114, 111, 99, 32, 112, 40, 120, 32, 105, 110, 116, 41, 32, 123, 32, 114, 101, 112, 108, 121, 32, 120, 32, 43, 32, 49, 59, 32, 125]
theorem wantX : procX wantT = (wantP, 0, 0) := by kernel_rfl
theorem ls_new {α : Type} {F : Nat → Prop} {w : World} {sz g n : Nat} {T : TypeId} {P : List Value → α → Prop} (rows : List (List Value)) (xs : List α) (hg : g = w.heap.size) (hF : F g) (hl : rows.length = n) (hx : xs.length = n) (hm : n ≤ 1000) (h : ∀ (k : Nat) (r : List Value) (x : α), rows[k]? = some r → xs[k]? = some x → r.length = sz ∧ P r x) :
    LsAt F (w.alloc (.cells rows.flatten.toArray T)) sz P (some ⟨g, 0, none⟩) n n xs :=
  ⟨rows, RowsAt.lit' _ rows n hg (by simp) (fun r hr => by
    obtain ⟨k, hk, rfl⟩ := List.mem_iff_getElem.1 hr
    exact (h k _ _ (List.getElem?_eq_getElem hk) (List.getElem?_eq_getElem (by omega))).1) hl (by unfold maxLen; omega), fun a ha _ => by cases ha; exact hF, by omega, h⟩
theorem one_new {α : Type} {F : Nat → Prop} {w : World} {sz g : Nat} {T : TypeId} {P : List Value → α → Prop} (row : List Value) (x : α) (hg : g = w.heap.size) (hF : F g) (hl : row.length = sz) (h : P row x) : LsAt F (w.alloc (.cells row.toArray T)) sz P (some ⟨g, 0, none⟩) 1 1 [x] := by
  have h1 := ls_new (F := F) (w := w) (T := T) (P := P) [row] [x] hg hF (n := 1) rfl rfl (by omega) (fun k r y hr hy => by
    rcases k with _ | k
    · simp at hr hy
      subst hr hy
      exact ⟨hl, h⟩
    · simp at hr)
  simpa using h1
def wantW (w2 : World) (cs : Array Value) : World := ((((((w2.alloc (.cells cs 25)).alloc (.cells #[.string ⟨#[120]⟩, .int .i64 1] 62)).alloc (.cells #[.int .i64 4, .int .i64 0, .string ⟨#[]⟩, .string ⟨#[120]⟩, .string ⟨#[]⟩, .slice none 0 0, .int .i64 1, .int .i64 1, .string ⟨#[]⟩, .string ⟨#[]⟩, .string ⟨#[]⟩, .slice none 0 0] 41)).alloc (.cells #[.int .i64 6, .int .i64 0, .string ⟨#[]⟩, .string ⟨#[]⟩, .string ⟨#[]⟩, .slice (some ⟨w2.heap.size + 1 + 1, 0, none⟩) 2 2] 41)).alloc (.cells #[.int .i64 10, .string ⟨#[]⟩, .string ⟨#[]⟩, .int .i64 0, .slice none 0 0, .slice (some ⟨w2.heap.size + 1 + 1 + 1, 0, none⟩) 1 1, .slice none 0 0, .slice none 0 0] 58)).alloc (.cells #[.string ⟨#[112]⟩, .string ⟨#[]⟩, .string ⟨#[]⟩, .int .i64 100, .slice (some ⟨w2.heap.size + 1, 0, none⟩) 1 1, .slice (some ⟨w2.heap.size + 1 + 1 + 1 + 1, 0, none⟩) 1 1] 25))
theorem wantW_eq (w2 : World) (cs : Array Value) : ((((((w2.alloc (.cells cs 25)).alloc (.cells #[.string ⟨#[120]⟩, .int .i64 1] 62)).alloc (.cells #[.int .i64 4, .int .i64 0, .string ⟨#[]⟩, .string ⟨#[120]⟩, .string ⟨#[]⟩, .slice none 0 0, .int .i64 1, .int .i64 1, .string ⟨#[]⟩, .string ⟨#[]⟩, .string ⟨#[]⟩, .slice none 0 0] 41)).alloc (.cells #[.int .i64 6, .int .i64 0, .string ⟨#[]⟩, .string ⟨#[]⟩, .string ⟨#[]⟩, .slice (some ⟨w2.heap.size + 1 + 1, 0, none⟩) 2 2] 41)).alloc (.cells #[.int .i64 10, .string ⟨#[]⟩, .string ⟨#[]⟩, .int .i64 0, .slice none 0 0, .slice (some ⟨w2.heap.size + 1 + 1 + 1, 0, none⟩) 1 1, .slice none 0 0, .slice none 0 0] 58)).alloc (.cells #[.string ⟨#[112]⟩, .string ⟨#[]⟩, .string ⟨#[]⟩, .int .i64 100, .slice (some ⟨w2.heap.size + 1, 0, none⟩) 1 1, .slice (some ⟨w2.heap.size + 1 + 1 + 1 + 1, 0, none⟩) 1 1] 25)) = wantW w2 cs := rfl
theorem blk_at {w : World} {g : Nat} {T : TypeId} {cs : Array Value} (h : g = w.heap.size) : IsBlk (w.alloc (.cells cs T)) g T cs := by subst h; exact IsBlk.laid _ _ _
/-- what is wanted lies there -/
theorem want_at (w2 : World) (cs : Array Value) : IsBlk (wantW w2 cs) w2.heap.size 25 cs ∧ IsBlk (wantW w2 cs) (w2.heap.size + 1 + 1 + 1 + 1 + 1) 25 #[.string ⟨#[112]⟩, .string ⟨#[]⟩, .string ⟨#[]⟩, .int .i64 100, .slice (some ⟨w2.heap.size + 1, 0, none⟩) 1 1, .slice (some ⟨w2.heap.size + 1 + 1 + 1 + 1, 0, none⟩) 1 1] ∧ PrAt (Fr w2) 9000 (wantW w2 cs) (#[.string ⟨#[112]⟩, .string ⟨#[]⟩, .string ⟨#[]⟩, .int .i64 100, .slice (some ⟨w2.heap.size + 1, 0, none⟩) 1 1, .slice (some ⟨w2.heap.size + 1 + 1 + 1 + 1, 0, none⟩) 1 1] : Array Value).toList wantP ∧ Below w2.heap.size w2 (wantW w2 cs) := by
  have al : ∀ (w : World) (o : Obj), Below w.heap.size w (w.alloc o) := fun w o => (Below.refl _ _).alloc (Nat.le_refl _) _
  have hok : ∀ c : UInt8, okS (str [c]) := fun c => by show 1 ≤ _; omega
  unfold wantW
  obtain ⟨w3, hw3⟩ : ∃ w3, w3 = w2.alloc (.cells cs 25) := ⟨_, rfl⟩
  have hk3 : IsBlk w3 w2.heap.size 25 cs := by rw [hw3]; exact IsBlk.laid _ _ _
  have hb3 : Below w2.heap.size w2 w3 := by rw [hw3]; exact al _ _
  have hz3 : w3.heap.size = w2.heap.size + 1 := by rw [hw3]; simp
  rw [← hw3]
  obtain ⟨w4, hw4⟩ : ∃ w4, w4 = w3.alloc (.cells #[.string ⟨#[120]⟩, .int .i64 1] 62) := ⟨_, rfl⟩
  have hp4 : LsAt (Fr w2) w4 2 CoRow (some ⟨w2.heap.size + 1, 0, none⟩) 1 1 wantP.params := by
    rw [hw4]
    exact one_new (F := Fr w2) (P := CoRow) [.string ⟨#[120]⟩, .int .i64 1] (⟨str [120], 1⟩ : Co) hz3.symm (by show w2.heap.size ≤ _; omega) rfl ⟨rfl, hok _, by constructor <;> simp⟩
  have hb4 : Below w3.heap.size w3 w4 := by rw [hw4]; exact al _ _
  have hz4 : w4.heap.size = w2.heap.size + 1 + 1 := by rw [hw4]; simp [hz3]
  rw [← hw4]
  obtain ⟨w5, hw5⟩ : ∃ w5, w5 = w4.alloc (.cells #[.int .i64 4, .int .i64 0, .string ⟨#[]⟩, .string ⟨#[120]⟩, .string ⟨#[]⟩, .slice none 0 0, .int .i64 1, .int .i64 1, .string ⟨#[]⟩, .string ⟨#[]⟩, .string ⟨#[]⟩, .slice none 0 0] 41) := ⟨_, rfl⟩
  have ha5 : ExsAt (Fr w2) 1 w5 (some ⟨w2.heap.size + 1 + 1, 0, none⟩) 2 2 [.mk 4 0 nil0 (str [120]) nil0 [], .mk 1 1 nil0 nil0 nil0 []] := by
    rw [hw5]
    refine ls_new (n := 2) [[.int .i64 4, .int .i64 0, .string ⟨#[]⟩, .string ⟨#[120]⟩, .string ⟨#[]⟩, .slice none 0 0], [.int .i64 1, .int .i64 1, .string ⟨#[]⟩, .string ⟨#[]⟩, .string ⟨#[]⟩, .slice none 0 0]] _ hz4.symm (by show w2.heap.size ≤ _; omega) rfl rfl (by omega) (fun k r x hr hx => ?_)
    rcases k with _ | _ | k
    · simp at hr hx; subst hr hx; exact ⟨rfl, leaf_at _ _ 4 0 nil0 (str [120]) (by decide) (by decide) okI_0 okS_0 (hok _)⟩
    · simp at hr hx; subst hr hx; exact ⟨rfl, leaf_at _ _ 1 1 nil0 nil0 (by decide) (by decide) (by constructor <;> simp) okS_0 okS_0⟩
    · simp at hr
  have hb5 : Below w4.heap.size w4 w5 := by rw [hw5]; exact al _ _
  have hz5 : w5.heap.size = w2.heap.size + 1 + 1 + 1 := by rw [hw5]; simp [hz4]
  rw [← hw5]
  obtain ⟨w6, hw6⟩ : ∃ w6, w6 = w5.alloc (.cells #[.int .i64 6, .int .i64 0, .string ⟨#[]⟩, .string ⟨#[]⟩, .string ⟨#[]⟩, .slice (some ⟨w2.heap.size + 1 + 1, 0, none⟩) 2 2] 41) := ⟨_, rfl⟩
  have hb6 : Below w5.heap.size w5 w6 := by rw [hw6]; exact al _ _
  have ha6 : ExsAt (Fr w2) 2 w6 (some ⟨w2.heap.size + 1 + 1 + 1, 0, none⟩) 1 1 [.mk 6 0 nil0 nil0 nil0 [.mk 4 0 nil0 (str [120]) nil0 [], .mk 1 1 nil0 nil0 nil0 []]] := by
    have h5 := ExsAt.below ha5 hb6
    rw [hw6] at h5 ⊢
    exact one_new [.int .i64 6, .int .i64 0, .string ⟨#[]⟩, .string ⟨#[]⟩, .string ⟨#[]⟩, .slice (some ⟨w2.heap.size + 1 + 1, 0, none⟩) 2 2] _ hz5.symm (by show w2.heap.size ≤ _; omega) rfl ⟨⟨by show _ ≤ (6 : Int); omega, by show (6 : Int) ≤ _; omega⟩, okI_0, okS_0, okS_0, okS_0, _, 2, 2, rfl, h5⟩
  have hz6 : w6.heap.size = w2.heap.size + 1 + 1 + 1 + 1 := by rw [hw6]; simp [hz5]
  rw [← hw6]
  obtain ⟨w7, hw7⟩ : ∃ w7, w7 = w6.alloc (.cells #[.int .i64 10, .string ⟨#[]⟩, .string ⟨#[]⟩, .int .i64 0, .slice none 0 0, .slice (some ⟨w2.heap.size + 1 + 1 + 1, 0, none⟩) 1 1, .slice none 0 0, .slice none 0 0] 58) := ⟨_, rfl⟩
  have hb7 : Below w6.heap.size w6 w7 := by rw [hw7]; exact al _ _
  have ha7 : StsAt (Fr w2) 3 w7 (some ⟨w2.heap.size + 1 + 1 + 1 + 1, 0, none⟩) 1 1 wantP.body := by
    have h6 := ExsAt.below ha6 hb7
    rw [hw7] at h6 ⊢
    exact one_new [.int .i64 10, .string ⟨#[]⟩, .string ⟨#[]⟩, .int .i64 0, .slice none 0 0, .slice (some ⟨w2.heap.size + 1 + 1 + 1, 0, none⟩) 1 1, .slice none 0 0, .slice none 0 0] _ hz6.symm (by show w2.heap.size ≤ _; omega) rfl (st_of (by decide) (by decide) okI_0 okS_0 okS_0 (LsAt.nil_ _ _ _ _) h6 (sts_nil _ _ _) (sts_nil _ _ _))
  have hz7 : w7.heap.size = w2.heap.size + 1 + 1 + 1 + 1 + 1 := by rw [hw7]; simp [hz6]
  rw [← hw7]
  have hb8 := al w7 (.cells #[.string ⟨#[112]⟩, .string ⟨#[]⟩, .string ⟨#[]⟩, .int .i64 100, .slice (some ⟨w2.heap.size + 1, 0, none⟩) 1 1, .slice (some ⟨w2.heap.size + 1 + 1 + 1 + 1, 0, none⟩) 1 1] 25)
  have h47 := (hb5.trans (hb6.mono hb5.size)).trans (hb7.mono (by omega))
  have h37 := hb4.trans (h47.mono hb4.size)
  have h27 := hb3.trans (h37.mono hb3.size)
  refine ⟨(hk3.as_was (h37.block _ hk3.lt)).alloc _, blk_at hz7.symm, ?_, h27.trans (hb8.mono h27.size)⟩
  refine ⟨hok _, okS_0, okS_0, ⟨by show _ ≤ (100 : Int); omega, by show (100 : Int) ≤ _; omega⟩, _, 1, 1, _, 1, 1, rfl, ?_, ?_⟩
  · exact (hp4.below h47).below hb8
  · exact StsAt.conv (fun _ h => h) (Kept.refl _ _) (by omega : 3 ≤ 9000) (StsAt.below ha7 hb8)
set_option maxRecDepth 100000 in
set_option maxHeartbeats 2000000 in
theorem awakeR_any (w : World) : Calls Tryz.prog 9 #[] w fun x w' => x = .returned (.bool true) ∧ Below w.heap.size w w' := by
  have hp := parseProc_any (str wantT) w
  have e : (str wantT).data.toList = wantT := rfl
  rw [e, wantX] at hp
  have Hp : Hid (Calls Tryz.prog 7 #[.string ⟨#[112, 114, 111, 99, 32, 112, 40, 120, 32, 105, 110, 116, 41, 32, 123, 32, 114, 101, 112, 108, 121, 32, 120, 32, 43, 32, 49, 59, 32, 125]⟩] w (ProcGives w (wantP, 0, 0))) := Lib.hid hp
  clear hp e
  go_enter Tryz.func9, Tryz.ntmps9
  go_wp2_with (fail)
  refine Hp.out.mono ?_
  rintro x w2 ⟨⟨row, rfl, hpr⟩, hb, _⟩
  have hpr2 := hpr
  obtain ⟨_, _, _, _, Ap, np, cp, Ab, nb, cb, rfl, _⟩ := hpr2
  have Hpr := Lib.hid hpr
  have Hb := Lib.hid hb
  clear hpr hb
  go_upto_region 3 with (fail)
  rw [wantW_eq]
  obtain ⟨hk, hq, hpw, hb8⟩ := want_at w2 #[.string wantP.name, .string wantP.src, .string wantP.part, .int .i64 wantP.fuel, .slice Ap np cp, .slice Ab nb cb]
  generalize wantW w2 #[.string wantP.name, .string wantP.src, .string wantP.part, .int .i64 wantP.fuel, .slice Ap np cp, .slice Ab nb cb] = w8 at *
  obtain ⟨x0, x1, x2, x3, x4, x5, xl⟩ := blk6 hk
  obtain ⟨y0, y1, y2, y3, y4, y5, yl⟩ := blk6 hq
  have hs := onePr_any (Fr w) (Fr w2) 9000 wantP _ _ w8 (PrAt.below Hpr.out hb8) hpw
  have Hs := Lib.hid hs
  have Hb8 := Lib.hid (Hb.out.trans (hb8.mono Hb.out.size))
  clear hs hb8 hpw hk hq
  go_wp2_with (fail)
  refine Hs.out.mono ?_
  rintro y w9 ⟨rfl, hb9⟩
  have Hb9 := Lib.hid (Hb8.out.trans (hb9.mono Hb8.out.size))
  clear hb9
  go_wp2
  go_ret
  exact ⟨rfl, Hb9.out⟩
end Go.Proofs.YtlakeanldbdedaaGreat

namespace Go.Proofs.YtlakeanldbdedaaGreat
open Go.RowKit Go.Afx

theorem noBlank_at {s : ByteArray} {k : Nat} (h : NoBlank s.data.toList k) : ∃ hk : k < s.size, wsB s[k] = false := by
  obtain ⟨h1, c, h2, h3⟩ := h
  have hk : k < s.size := by rwa [szl] at h1
  refine ⟨hk, ?_⟩
  rw [List.getElem?_eq_getElem h1] at h2
  have e : s.data.toList[k] = s[k] := rfl
  rw [e] at h2
  rw [Option.some.inj h2]
  exact h3
set_option maxRecDepth 100000 in
set_option maxHeartbeats 4000000 in
theorem parseRight_walk (s : ByteArray) (w : World) : Calls Tryz.prog 3 #[.string s] w fun x w' => x = .returned (.bool true) ∧ Below w.heap.size w w' := by
  have hp := parseProc_any s w
  have hpos : PosSaid s.data.toList (procX s.data.toList).2.1 (procX s.data.toList).2.2 := textX_said _ _ _ _
  have hri : (procX s.data.toList).2.2 = 0 → rightB 9000 (procX s.data.toList).1 = true := fun h => textX_right h
  generalize procX s.data.toList = x at *
  obtain ⟨p, at_, er⟩ := x
  simp only at hpos hri
  have Hp := Lib.hid hp
  have Haw := Lib.hid awakeR_any
  clear hp
  rcases hpos with ⟨rfl, rfl⟩ | ⟨rfl, rfl, h8⟩ | ⟨rfl, rfl, h8⟩ | ⟨rfl, k, rfl, hk⟩
  · have hr := hri rfl
    have Hr := Lib.hid hr
    clear hri hr
    go_enter Tryz.func3, Tryz.ntmps3
    go_wp2_with (fail)
    refine Hp.out.mono ?_
    rintro e w2 ⟨⟨row, rfl, hpr⟩, hb, hfew⟩
    have hpr2 := hpr
    obtain ⟨_, _, _, _, Ap, np, cp, Ab, nb, cb, rfl, _⟩ := hpr2
    have hal := (Below.refl w2.heap.size w2).alloc (Nat.le_refl _) (.cells #[.string p.name, .string p.src, .string p.part, .int .i64 p.fuel, .slice Ap np cp, .slice Ab nb cb] 25)
    have hrc := right_any (Fr w) 9000 p _ _ (PrAt.below hpr hal) (by omega) hfew
    rw [Hr.out] at hrc
    have Hrc := Lib.hid hrc
    have Hb := Lib.hid (hb.trans (hal.mono hb.size))
    clear hpr hal hrc hb hfew
    go_wp2_with (fail)
    refine Hrc.out.mono ?_
    rintro e w3 ⟨rfl, hb3⟩
    have Hb3 := Lib.hid (Hb.out.trans (hb3.mono Hb.out.size))
    clear hb3
    go_wp2_with (fail)
    refine (Haw.out _).mono ?_
    rintro e w4 ⟨rfl, hb4⟩
    have Hb4 := Lib.hid (Hb3.out.trans (hb4.mono Hb3.out.size))
    clear hb4
    go_wp2
    go_ret
    exact ⟨rfl, Hb4.out⟩
  · have h9 : (8000 : Int) < (s.size : Int) := by rw [szl] at h8; omega
    clear hri h8
    go_enter Tryz.func3, Tryz.ntmps3
    go_wp2_with (fail)
    refine Hp.out.mono ?_
    rintro e w2 ⟨⟨row, rfl, hpr⟩, hb, _⟩
    obtain ⟨_, _, _, _, Ap, np, cp, Ab, nb, cb, rfl, _⟩ := hpr
    have hal := (Below.refl w2.heap.size w2).alloc (Nat.le_refl _) (.cells #[.string p.name, .string p.src, .string p.part, .int .i64 p.fuel, .slice Ap np cp, .slice Ab nb cb] 25)
    have Hb := Lib.hid (hb.trans (hal.mono hb.size))
    clear hb hal
    go_wp2_with (fail)
    refine (Haw.out _).mono ?_
    rintro e w4 ⟨rfl, hb4⟩
    have Hb4 := Lib.hid (Hb.out.trans (hb4.mono Hb.out.size))
    clear hb4
    go_wp2
    go_ret
    exact ⟨rfl, Hb4.out⟩
  · have h9 : ¬ (8000 : Int) < (s.size : Int) := by rw [szl] at h8; omega
    have Hd := Lib.hid (decide_eq_false h9)
    clear hri h8
    go_enter Tryz.func3, Tryz.ntmps3
    go_wp2_with (fail)
    refine Hp.out.mono ?_
    rintro e w2 ⟨⟨row, rfl, hpr⟩, hb, _⟩
    obtain ⟨_, _, _, _, Ap, np, cp, Ab, nb, cb, rfl, _⟩ := hpr
    have hal := (Below.refl w2.heap.size w2).alloc (Nat.le_refl _) (.cells #[.string p.name, .string p.src, .string p.part, .int .i64 p.fuel, .slice Ap np cp, .slice Ab nb cb] 25)
    have Hb := Lib.hid (hb.trans (hal.mono hb.size))
    clear hb hal
    go_wp2_with (fail)
    refine (Haw.out _).mono ?_
    rintro e w4 ⟨rfl, hb4⟩
    have Hb4 := Lib.hid (Hb.out.trans (hb4.mono Hb.out.size))
    clear hb4
    go_wp2
    go_ret
    exact ⟨by rw [Hd.out]; rfl, Hb4.out⟩
  · have hk2 : k = s.size ∨ (k ≠ s.size ∧ ∃ h : k < s.size, ((s[k].toNat : Int) != 32) = true ∧ ((s[k].toNat : Int) != 10) = true ∧ ((s[k].toNat : Int) != 9) = true) := by
      rcases hk with h | h
      · left; rwa [szl] at h
      · right
        obtain ⟨h1, h2⟩ := noBlank_at h
        refine ⟨by omega, h1, ?_⟩
        simp [wsB] at h2
        simp
        omega
    clear hri hk
    rcases hk2 with rfl | ⟨hne, hlt, b1, b2, b3⟩
    · go_enter Tryz.func3, Tryz.ntmps3
      go_wp2_with (fail)
      refine Hp.out.mono ?_
      rintro e w2 ⟨⟨row, rfl, hpr⟩, hb, _⟩
      obtain ⟨_, _, _, _, Ap, np, cp, Ab, nb, cb, rfl, _⟩ := hpr
      have hal := (Below.refl w2.heap.size w2).alloc (Nat.le_refl _) (.cells #[.string p.name, .string p.src, .string p.part, .int .i64 p.fuel, .slice Ap np cp, .slice Ab nb cb] 25)
      have Hb := Lib.hid (hb.trans (hal.mono hb.size))
      clear hb hal
      go_wp2_with (fail)
      refine (Haw.out _).mono ?_
      rintro e w4 ⟨rfl, hb4⟩
      have Hb4 := Lib.hid (Hb.out.trans (hb4.mono Hb.out.size))
      clear hb4
      go_wp2
      go_ret
      exact ⟨rfl, Hb4.out⟩
    · have q0 : ((k : Int) == (s.size : Int)) = false := by rw [beq_eq_false_iff_ne]; omega
      go_enter Tryz.func3, Tryz.ntmps3
      go_wp2_with (fail)
      refine Hp.out.mono ?_
      rintro e w2 ⟨⟨row, rfl, hpr⟩, hb, _⟩
      obtain ⟨_, _, _, _, Ap, np, cp, Ab, nb, cb, rfl, _⟩ := hpr
      have hal := (Below.refl w2.heap.size w2).alloc (Nat.le_refl _) (.cells #[.string p.name, .string p.src, .string p.part, .int .i64 p.fuel, .slice Ap np cp, .slice Ab nb cb] 25)
      have Hb := Lib.hid (hb.trans (hal.mono hb.size))
      clear hb hal
      go_wp2_with (fail)
      refine (Haw.out _).mono ?_
      rintro e w4 ⟨rfl, hb4⟩
      have Hb4 := Lib.hid (Hb.out.trans (hb4.mono Hb.out.size))
      clear hb4
      go_wp2
      go_ret
      exact ⟨rfl, Hb4.out⟩
end Go.Proofs.YtlakeanldbdedaaGreat
