/- Parts of this proof, one behind the other: PrsR. -/
import Derived.Test.YtjpiedpmnnepgaaGreatDoorPz16
import Derived.Test.YtjpiedpmnnepgaaGreatDoorPz11
import Derived.Test.YtjpiedpmnnepgaaGreatDoorPz7
set_option maxRecDepth 1000000
set_option maxHeartbeats 40000000
namespace Go.Proofs.YtjpiedpmnnepgaaGreatDoor
open Go.RowKit Go.Afx
structure HeadsG (name src part : ByteArray) (fuel : Int) (params : List Co) : Prop where
 kinds : ∀ c ∈ params, 1 ≤ c.kind ∧ c.kind ≤ 3
 f0 : 1 ≤ fuel
 f1 : fuel ≤ 2000
 name_ : name.data.toList.length ≤ 16
 src_ : src.data.toList.length ≤ 16
 part_ : part.data.toList.length ≤ 16
 few : params.length ≤ 8
 names : ∀ c ∈ params, c.name.data.toList.length ≤ 16
theorem heads_gives {name src part : ByteArray} {fuel : Int} {params : List Co} (h : headsR name src part fuel params = true) : HeadsG name src part fuel params := by
 unfold headsR at h
 simp only [Bool.and_eq_true, decide_eq_true_eq, List.all_eq_true] at h
 obtain ⟨⟨⟨⟨⟨⟨h1, h2⟩, h3⟩, h4⟩, _⟩, h5⟩, h6⟩ := h
 have hk : ∀ c ∈ params, 1 ≤ c.kind ∧ c.kind ≤ 3 := fun c hc => by
  have := h1 c hc
  unfold kindB at this
  simp only [Bool.and_eq_true, decide_eq_true_eq] at this
  exact this
 rw [freesB_all, List.all_eq_true] at h4
 have hn : ∀ c ∈ params, c.name.data.toList.length ≤ 16 := fun c hc => named_len (h4 c.name (List.mem_map.2 ⟨c, hc, rfl⟩))
 have hsp : src.data.toList.length ≤ 16 ∧ part.data.toList.length ≤ 16 := by
  cases hs : noS src
  ·rw [hs] at h6
   simp only [Bool.false_eq_true, if_false, Bool.and_eq_true] at h6
   exact ⟨named_len h6.1.1, noS_len h6.2⟩
  ·rw [hs] at h6
   simp only [if_true, Bool.or_eq_true, List.any_eq_true, decide_eq_true_eq] at h6
   refine ⟨noS_len hs, ?_⟩
   rcases h6 with h6 | ⟨x, hx, rfl⟩
   ·exact noS_len h6
   ·obtain ⟨c, hc, rfl⟩ := List.mem_map.1 hx
    exact hn c hc
 exact ⟨hk, h5.1, h5.2, named_len h2, hsp.1, hsp.2, h3, hn⟩
theorem params_len {params : List Co} (hf : params.length ≤ 8) (hn : ∀ c ∈ params, c.name.data.toList.length ≤ 16) : (joinT (params.map paramT)).length ≤ 200 := by
 refine Nat.le_trans (joinT_len _) ?_
 have : ∀ l : List Co, (∀ c ∈ l, c.name.data.toList.length ≤ 16) → ((l.map paramT).map fun x => x.length + 2).sum ≤ 25 * l.length := by
  intro l
  induction l with
  | nil => intro _; simp
  | cons a r ih =>
   intro h
   have h1 := h a (by simp)
   have h2 := kindT_le a.kind
   have h3 := ih fun c hc => h c (by simp [hc])
   simp only [List.map_cons, List.sum_cons, paramT, List.length_append, List.length_cons, List.length_nil] at h3 ⊢
   omega
 have := this params hn
 omega
theorem txtP_len {F : Nat → Prop} {w : World} {d : Nat} {p : Pr} {row : List Value} (h : PrAt F d w row p) (hd : d ≤ 900) (hr : rightB d p = true) : (txtP d p).length ≤ 900000000 := by
 unfold rightB headsB at hr
 simp only [Bool.and_eq_true, List.all_eq_true] at hr
 obtain ⟨⟨h1, h2⟩, h3⟩ := hr
 have hg := heads_gives h1
 have hc := (small_cnt hd h2).1
 obtain ⟨_, _, _, hfu, Ap, np, cp, Ab, nb, cb, _, _, hxb⟩ := h
 have hxb : StsAt F d w Ab nb cb p.body := hxb
 have hb := blockT_len (f := txtS d) (k := 0) (K := d + 1) (C := 600 + 8 * (d + 1)) (g := cntS d) (l := p.body) (by omega) (fun x hx => by
  obtain ⟨r, hr⟩ := ls_each hxb x hx
  exact txtS_len d x r 1 (d + 1) hr (h3 x hx) (by omega))
 have hcp : (p.body.map (cntS d)).sum ≤ 300 := hc
 have hm : (600 + 8 * (d + 1)) * (p.body.map (cntS d)).sum ≤ 10000 * 300 := Nat.mul_le_mul (by omega) hcp
 have hp := params_len hg.few hg.names
 have hf := decS_len hfu
 have n1 := hg.name_
 have n2 := hg.src_
 have n3 := hg.part_
 unfold txtP
 split <;> split <;> split <;> simp only [List.length_append, List.length_cons, List.length_nil] <;> omega
theorem txtP_ne (d : Nat) (p : Pr) : txtP d p ≠ [] := by unfold txtP; simp
theorem proc_any (F : Nat → Prop) (d : Nat) (p : Pr) (row : List Value) (g : Nat) (t : List UInt8) (br : Bool) (w : World) (h : PrAt F d w row p) (hr : rightB d p = true) (hd : d ≤ 900) (hF : ∀ k, F k → k < g) (hwt : WtAt g t br w) (hm : HasMax w) (hg : 0 < g) (hlen : t.length + (txtP d p).length ≤ 1000000000) :
  Calls Tryz.prog 36 #[.pointer (some ⟨g, 0, none⟩), .agg row.toArray] w fun e' w' => e' = .returned (.tuple #[]) ∧ WtAt g (t ++ txtP d p) (br || nlP d p) w' ∧ Wrote g w w' := by
 have hr2 := hr
 unfold rightB headsB at hr2
 simp only [Bool.and_eq_true, List.all_eq_true] at hr2
 obtain ⟨⟨h1, _⟩, h3⟩ := hr2
 have hG := heads_gives h1
 obtain ⟨_, _, _, _, Ap, np, cp, Ab, nb, cb, rfl, hpl, hbl⟩ := h
 exact proc_does F p.name p.src p.part p.fuel p.params Ap Ab np cp nb cb _ _ g t br w hwt hpl hG.kinds hF (by have := hG.f0; omega) (by have := hG.f1; omega) (block_does (k := 0) (stmt_any d F) hbl h3 hF hm hg (by omega)) hlen
theorem keptP_any (F : Nat → Prop) (d : Nat) (p : Pr) (row : List Value) (x g : Nat) (t : List UInt8) (br : Bool) (w : World) (hx : PrAt F d w row p) (hr : rightB d p = true) (hd : d ≤ 900) (hF : ∀ k, F k → k < g) (hk : IsBlk w x 50 row.toArray) (h : WtAt g t br w) (hm : HasMax w) (hg : 0 < g) (hlen : t.length + (txtP d p).length ≤ 1000000000) :
  Calls Tryz.prog 35 #[.pointer (some ⟨g, 0, none⟩), .pointer (some ⟨x, 0, none⟩)] w fun e' w' => e' = .returned (.tuple #[]) ∧ WtAt g (t ++ txtP d p) (br || nlP d p) w' ∧ Wrote g w w' := by
 have Hc := Lhd (proc_any F d p row g t br w hx hr hd hF h hm hg hlen)
 obtain ⟨_, _, _, _, Ap, np, cp, Ab, nb, cb, rfl, _, _⟩ := hx
 obtain ⟨x0, x1, x2, x3, x4, x5, xl⟩ := box6 hk
 clear hr hd hF hk h hm hg hlen
 go_enter Tryz.func35, Tryz.ntmps35
 go_wp2_with (go_at_call 36; refine Hc.out.mono ?_)
 rintro e' w2 ⟨rfl, h1, h2⟩
 have H := Lhd (And.intro h1 h2)
 clear h1 h2
 go_wp2
 go_end0
 exact ⟨rfl, H.out.1, H.out.2⟩
theorem printedP_yes (x : Nat) (t : List UInt8) (br : Bool) (w : World) (ht : t ≠ [])
  (hc : ∀ W, Below w.heap.size w W → WtAt w.heap.size [] false W → Calls Tryz.prog 35 #[.pointer (some ⟨w.heap.size, 0, none⟩), .pointer (some ⟨x, 0, none⟩)] W fun e' w' => e' = .returned (.tuple #[]) ∧ WtAt w.heap.size t br w' ∧ Wrote w.heap.size W w') :
  Calls Tryz.prog 19 #[.bool true, .func (.func 35) #[] #[.pointer (some ⟨x, 0, none⟩)]] w fun e w' => e = .returned (.tuple #[.string ⟨(printS br t).1.toArray⟩, .int .i64 (printS br t).2]) ∧ Below w.heap.size w w' := by
 have hb1 : Below w.heap.size w (w.alloc (.cells #[.pointer none, .slice none 0 0, .bool false] 100)) := (Below.refl _ _).alloc (Nat.le_refl _) _
 have Hc := Lhd (hc _ hb1 (wt_new w))
 have Hb1 := Lhd hb1
 have Ht := Lhd ht
 clear hc hb1 ht
 go_enter Tryz.func19, Tryz.ntmps19
 go_wp2_with (go_at_call 35; refine Hc.out.mono ?_)
 rintro e' w2 ⟨rfl, h2, hr2⟩
 obtain ⟨b1, _, b3⟩ := h2.brk
 have Hr2 := Lhd (And.intro h2 (Hb1.out.trans hr2.1))
 have Hln := Lhd (len_any _ _ _ _ h2)
 have Hst := Lhd (string_any _ _ _ _ h2 Ht.out)
 clear h2 hr2
 cases br
 ·rcases Classical.em (8000 < t.length) with hl | hl
  ·have hd : decide ((8000 : Int) < (t.length : Int)) = true := by simp; omega
   have e : printS false t = ([], 5) := by unfold printS; rw [if_neg (by decide), if_pos hl]
   have He := Lhd e
   clear hl e
   go_wp2_with (go_at_call 41; refine Hln.out.mono ?_; rintro e' w3 ⟨rfl, rfl⟩)
   go_ret2
   rw [He.out]
   exact ⟨rfl, Hr2.out.2⟩
  ·have hd : decide ((8000 : Int) < (t.length : Int)) = false := by simp; omega
   have e : printS false t = (t, 0) := by unfold printS; rw [if_neg (by decide), if_neg hl]
   have He := Lhd e
   clear hl e
   go_wp2_with (first | (go_at_call 41; refine Hln.out.mono ?_; rintro e' w3 ⟨rfl, rfl⟩) | (go_at_call 42; refine Hst.out.mono ?_; rintro e' w4 ⟨rfl, hb4⟩))
   go_ret2
   rw [He.out]
   exact ⟨rfl, Hr2.out.2.trans hb4⟩
 ·have e : printS true t = ([], 1) := by unfold printS; rw [if_pos rfl]
  have He := Lhd e
  clear e
  go_wp2
  go_ret2
  rw [He.out]
  exact ⟨rfl, Hr2.out.2⟩
def procS (d : Nat) (p : Pr) : List UInt8 × Int := if rightB d p then printS (nlP d p) (txtP d p) else ([], 1)
theorem printProc_any (F : Nat → Prop) (d : Nat) (p : Pr) (row : List Value) (w : World) (h : PrAt F d w row p) (hd : d ≤ 900) (hbig : p.params.length ≤ 1000000) (hF : ∀ k, F k → k < w.heap.size) (hm : HasMax w) :
  Calls Tryz.prog 14 #[.agg row.toArray] w fun x w' => x = .returned (.tuple #[.string ⟨(procS d p).1.toArray⟩, .int .i64 (procS d p).2]) ∧ Below w.heap.size w w' := by
 obtain ⟨w1, Hw1⟩ : ∃ w1, Hid (w1 = w.alloc (.cells row.toArray 50)) := ⟨_, rfl⟩
 have hb1 : Below w.heap.size w w1 := by rw [Hw1.out]; exact (Below.refl _ _).alloc (Nat.le_refl _) _
 have hk1 : IsBlk w1 w.heap.size 50 row.toArray := by rw [Hw1.out]; exact IsBlk.laid _ _ _
 have Hri := Lhd (right_any F d p row w1 (h.below hb1) (by omega) hbig)
 have Hyes := Lhd (fun W (hW : Below w1.heap.size w1 W) (hr : rightB d p = true) => printedP_yes w.heap.size (txtP d p) (nlP d p) W (txtP_ne d p) (fun W2 h2 hwt => by
  have hall : Below w.heap.size w W2 := hb1.trans ((hW.mono hb1.size).trans (h2.mono (Nat.le_trans hb1.size hW.size)))
  have hk := (hk1.as_was (hW.block _ hk1.lt)).as_was (h2.block _ (Nat.lt_of_lt_of_le hk1.lt hW.size))
  have hmg := Nat.lt_of_lt_of_le hm.lt (Nat.le_trans hb1.size hW.size)
  have hl := txtP_len h hd hr
  have hres := keptP_any F d p row w.heap.size W.heap.size [] false W2 (h.below hall) hr hd (fun k hk => Nat.lt_of_lt_of_le (hF k hk) (Nat.le_trans hb1.size hW.size)) hk hwt (hm.below hm.lt hall) hmg (by simp only [List.length_nil]; omega)
  rw [List.nil_append, Bool.false_or] at hres
  exact hres))
 have Hb1 := Lhd hb1
 have Hex := Lhd (show procS d p = if rightB d p then printS (nlP d p) (txtP d p) else ([], 1) from rfl)
 generalize procS d p = fin at *
 obtain ⟨_, _, _, _, Ap, np, cp, Ab, nb, cb, rfl, _, _⟩ := h
 obtain ⟨x0, x1, x2, x3, x4, x5, xl⟩ := box6 hk1
 have hmf : ∀ (fn : Fn) (first cap : Array Value) (w : World), (Instr.makeFunc fn first cap).run Tryz.prog w = .ok (.func fn first cap) w := fun _ _ _ _ => rfl
 clear hb1 hk1 hF hm hd hbig
 generalize rightB d p = ri at *
 cases ri
 ·clear Hyes
  go_enter Tryz.func14, Tryz.ntmps14
  go_upto_region 1 with (fail)
  rw [← Hw1.out]
  go_wp2_with (first | (go_at_call 34; refine Hri.out.mono ?_; rintro x w2 ⟨rfl, hb2⟩) | (go_at_call 19; refine (printed_no _ _).mono ?_; rintro x w3 ⟨rfl, rfl⟩))
  go_ret2
  rw [Hex.out]
  exact ⟨rfl, Hb1.out.trans (hb2.mono Hb1.out.size)⟩
 ·have Hy := Lhd (fun W hW => Hyes.out W hW rfl)
  clear Hyes
  go_enter Tryz.func14, Tryz.ntmps14
  go_upto_region 1 with (fail)
  rw [← Hw1.out]
  go_wp2_with (first | (go_at_call 34; refine Hri.out.mono ?_; rintro x w2 ⟨rfl, hb2⟩) | (go_at_call 19; refine (Hy.out _ hb2).mono ?_; rintro x w3 ⟨rfl, hb3⟩))
  go_ret2
  rw [Hex.out]
  exact ⟨rfl, Hb1.out.trans ((hb2.mono Hb1.out.size).trans (hb3.mono (Nat.le_trans Hb1.out.size hb2.size)))⟩
end Go.Proofs.YtjpiedpmnnepgaaGreatDoor
