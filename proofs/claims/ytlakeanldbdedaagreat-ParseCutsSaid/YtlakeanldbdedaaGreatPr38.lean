/- Parts of this proof, one behind the other: ParZ3. -/
import Derived.Test.YtlakeanldbdedaaGreatPr37
import Derived.Deep.Cut
namespace Go.Proofs.YtlakeanldbdedaaGreat
open Go.RowKit Go.Afx

def headP (W : Wds) (s : PSt) : List Co × PSt := if isP W s (str [41]) then ([], s) else list1 W (paramP W) s
def fromP (W : Wds) (s : PSt) : (ByteArray × ByteArray) × PSt :=
  if (mayP W (str [111, 110]) s).1 then ((nil0, (nameP W (mayP W (str [111, 110]) s).2).1), (nameP W (mayP W (str [111, 110]) s).2).2)
  else if (mayP W (str [102, 114, 111, 109]) s).1 then (((nameP W (mayP W (str [102, 114, 111, 109]) s).2).1, nil0), (nameP W (mayP W (str [102, 114, 111, 109]) s).2).2)
  else ((nil0, nil0), s)
theorem fuelP_eq (W : Wds) (s : PSt) : fuelP W s = if (mayP W (str [102, 117, 101, 108]) s).1 then (min (numP W (mayP W (str [102, 117, 101, 108]) s).2).1 2001, (numP W (mayP W (str [102, 117, 101, 108]) s).2).2) else (100, s) := rfl
theorem procP_eq (W : Wds) (s : PSt) : procP W s =
    (⟨(nameP W (mustP W [str [112, 114, 111, 99]] s)).1, (fromP W (leaveP (mustP W [str [41]] (headP W (enterP (mustP W [str [40]] (nameP W (mustP W [str [112, 114, 111, 99]] s)).2))).2))).1.1, (fromP W (leaveP (mustP W [str [41]] (headP W (enterP (mustP W [str [40]] (nameP W (mustP W [str [112, 114, 111, 99]] s)).2))).2))).1.2,
      (fuelP W (fromP W (leaveP (mustP W [str [41]] (headP W (enterP (mustP W [str [40]] (nameP W (mustP W [str [112, 114, 111, 99]] s)).2))).2))).2).1, (headP W (enterP (mustP W [str [40]] (nameP W (mustP W [str [112, 114, 111, 99]] s)).2))).1,
      (block1 W (fuelP W (fromP W (leaveP (mustP W [str [41]] (headP W (enterP (mustP W [str [40]] (nameP W (mustP W [str [112, 114, 111, 99]] s)).2))).2))).2).2).1⟩,
     (block1 W (fuelP W (fromP W (leaveP (mustP W [str [41]] (headP W (enterP (mustP W [str [40]] (nameP W (mustP W [str [112, 114, 111, 99]] s)).2))).2))).2).2).2) := by
  unfold procP headP
  simp only
  generalize nameP W (mustP W [str [112, 114, 111, 99]] s) = a
  generalize enterP (mustP W [str [40]] a.2) = s1
  generalize (if isP W s1 (str [41]) = true then ([], s1) else list1 W (paramP W) s1 : List Co × PSt) = l
  generalize leaveP (mustP W [str [41]] l.2) = s2
  unfold fromP
  generalize mayP W (str [111, 110]) s2 = m1
  generalize mayP W (str [102, 114, 111, 109]) s2 = m2
  obtain ⟨b1, t1⟩ := m1
  obtain ⟨b2, t2⟩ := m2
  cases b1 <;> cases b2 <;> rfl
/-- what taking a procedure gives -/
def GivesP (gp gc gw : Nat) (W : Wds) (s' : PSt) (x : Pr) (w : World) (e : Ending) (w' : World) : Prop := ∃ row D, e = .returned (.agg row.toArray) ∧ PrAt (Fr w) D w' row x ∧ PAt gp gc gw W s' w' ∧ But (On2 gp gc) w w'
abbrev zeroP : Array Value := #[.string ⟨#[]⟩, .string ⟨#[]⟩, .string ⟨#[]⟩, .int .i64 0, .slice none 0 0, .slice none 0 0]
/-- a procedure that is built, in block gx -/
structure Prc (gp gc gw gb gr gx : Nat) (W : Wds) (s : PSt) (w wr : World) (nm src part : ByteArray) (fu : Int) (A : Option Addr) (c : Nat) (ps : List Co) : Prop where
  p : PAt gp gc gw W s wr
  b : But (On2 gp gc) w wr
  kb : IsBlk wr gb 50 #[.pointer (some ⟨gp, 0, none⟩)]
  kr : IsBlk wr gr 25 zeroP
  kx : IsBlk wr gx 25 #[.string nm, .string src, .string part, .int .i64 fu, .slice A ps.length c, .slice none 0 0]
  ls : LsAt (fun b => gx < b) wr 2 CoRow A ps.length c ps
  ne : gp < gb ∧ gc < gb ∧ gw < gb ∧ gb < gr ∧ gr < gx ∧ gb = w.heap.size
section
variable {gp gc gw gb gr gx : Nat} {W : Wds} {s s' : PSt} {w wr w8 : World} {nm src part : ByteArray} {fu : Int} {A : Option Addr} {c : Nat} {ps : List Co}
theorem Prc.on2 (h : Prc gp gc gw gb gr gx W s w wr nm src part fu A c ps) (hP : PAt gp gc gw W s' w8) (hB : But (On2 gp gc) wr w8) : Prc gp gc gw gb gr gx W s' w w8 nm src part fu A c ps :=
  ⟨hP, h.b.trans' hB, on2_blk h.kb hB (by have := h.ne; omega), on2_blk h.kr hB (by have := h.ne; omega), on2_blk h.kx hB (by have := h.ne; omega),
    LsAt.kept h.ls (fr_on2 hB (fun k hk => by have := h.ne; omega)), h.ne⟩
theorem Prc.turned {src' part' : ByteArray} {fu' : Int} (h : Prc gp gc gw gb gr gx W s w wr nm src part fu A c ps) (hB : But (fun k => k = gx) wr w8) (hk : IsBlk w8 gx 25 #[.string nm, .string src', .string part', .int .i64 fu', .slice A ps.length c, .slice none 0 0]) : Prc gp gc gw gb gr gx W s w w8 nm src' part' fu' A c ps := by
  have hn := h.ne
  exact ⟨h.p.elsewhere hB (by omega), h.b.trans hB (fun i hi => .inr (by omega)), h.kb.as_was (hB.block _ h.kb.lt (by omega)), h.kr.as_was (hB.block _ h.kr.lt (by omega)), hk,
    LsAt.kept h.ls (Kept.of_but hB fun k hk e => by omega), hn⟩
theorem Prc.src_ (h : Prc gp gc gw gb gr gx W s w wr nm src part fu A c ps) (x : ByteArray) : Prc gp gc gw gb gr gx W s w (wr.setCell ⟨gx, 1, none⟩ (.string x)) nm x part fu A c ps :=
  h.turned ((But.refl (fun k => k = gx) wr).setCell (p := ⟨gx, 1, none⟩) (.inl rfl) _) (h.kx.stored 1 (.string x))
theorem Prc.part_ (h : Prc gp gc gw gb gr gx W s w wr nm src part fu A c ps) (x : ByteArray) : Prc gp gc gw gb gr gx W s w (wr.setCell ⟨gx, 2, none⟩ (.string x)) nm src x fu A c ps :=
  h.turned ((But.refl (fun k => k = gx) wr).setCell (p := ⟨gx, 2, none⟩) (.inl rfl) _) (h.kx.stored 2 (.string x))
theorem Prc.fuel_ (h : Prc gp gc gw gb gr gx W s w wr nm src part fu A c ps) (x : Int) : Prc gp gc gw gb gr gx W s w (wr.setCell ⟨gx, 3, none⟩ (.int .i64 x)) nm src part x A c ps :=
  h.turned ((But.refl (fun k => k = gx) wr).setCell (p := ⟨gx, 3, none⟩) (.inl rfl) _) (h.kx.stored 3 (.int .i64 x))
/-- its parameters are there -/
theorem Prc.listed {fin : List Co} {A' : Option Addr} {c' : Nat} (h : Prc gp gc gw gb gr gx W s w wr nm ⟨#[]⟩ ⟨#[]⟩ 100 none 0 []) (hP : PAt gp gc gw W s' w8) (hL : ProOwn (gx + 1) gx w8 nm A' c' fin) (hB : But (On3 gp gc gx (gx + 1)) wr w8) : Prc gp gc gw gb gr gx W s' w w8 nm ⟨#[]⟩ ⟨#[]⟩ 100 A' c' fin := by
  have hn := h.ne
  refine ⟨hP, h.b.trans hB (fun i hi => ?_), h.kb.as_was (hB.block _ h.kb.lt ?_), h.kr.as_was (hB.block _ h.kr.lt ?_), hL.blk, LsAt.conv hL.list (Kept.refl _ _) (fun a _ _ h => h) (fun r x _ hx => hx), hn⟩
  · rcases hi with e | e | e | e
    · exact .inl (.inl e)
    · exact .inl (.inr e)
    · exact .inr (by omega)
    · exact .inr (by omega)
  · rintro (e | e | e | e) <;> omega
  · rintro (e | e | e | e) <;> omega
end
/-- a procedure is laid into the result's block -/
theorem Prc.out {gp gc gw gb gr gx : Nat} {W : Wds} {s s' : PSt} {w wr w8 : World} {nm src part : ByteArray} {fu : Int} {A : Option Addr} {c : Nat} {ps : List Co} {D : Nat} {Ab : Option Addr} {nb cb : Nat} {bl : List St}
    (h : Prc gp gc gw gb gr gx W s w wr nm src part fu A c ps) (hok : okS nm ∧ okS src ∧ okS part ∧ okI fu) (hx : StsAt (Fr wr) D w8 Ab nb cb bl) (hP : PAt gp gc gw W s' w8) (hB : But (On2 gp gc) wr w8) :
    IsBlk w8 gx 25 #[.string nm, .string src, .string part, .int .i64 fu, .slice A ps.length c, .slice none 0 0] ∧
    IsBlk (w8.setCell ⟨gx, 5, none⟩ (.slice Ab nb cb)) gx 25 #[.string nm, .string src, .string part, .int .i64 fu, .slice A ps.length c, .slice Ab nb cb] ∧
    IsBlk (w8.setCell ⟨gx, 5, none⟩ (.slice Ab nb cb)) gr 25 zeroP ∧
    IsBlk (lay6 (w8.setCell ⟨gx, 5, none⟩ (.slice Ab nb cb)) gr (.string nm) (.string src) (.string part) (.int .i64 fu) (.slice A ps.length c) (.slice Ab nb cb)) gr 25 #[.string nm, .string src, .string part, .int .i64 fu, .slice A ps.length c, .slice Ab nb cb] ∧
    GivesP gp gc gw W s' ⟨nm, src, part, fu, ps, bl⟩ w (.returned (.agg #[.string nm, .string src, .string part, .int .i64 fu, .slice A ps.length c, .slice Ab nb cb])) (lay6 (w8.setCell ⟨gx, 5, none⟩ (.slice Ab nb cb)) gr (.string nm) (.string src) (.string part) (.int .i64 fu) (.slice A ps.length c) (.slice Ab nb cb)) := by
  have hn := h.ne
  have h8 := h.on2 hP hB
  have hgx := h.kx.lt
  have hb5 := (But.refl (fun k => k = gx) w8).setCell (p := ⟨gx, 5, none⟩) (.inl rfl) (.slice Ab nb cb)
  have hk5 : IsBlk (w8.setCell ⟨gx, 5, none⟩ (.slice Ab nb cb)) gx 25 #[.string nm, .string src, .string part, .int .i64 fu, .slice A ps.length c, .slice Ab nb cb] := h8.kx.stored 5 _
  have hk4 := h8.kr.as_was (hb5.block _ h8.kr.lt (by omega))
  have hls := LsAt.kept h8.ls (Kept.of_but hb5 fun k hk e => by omega)
  have hxs := StsAt.kept hx (Kept.of_but hb5 fun k (hk : wr.heap.size ≤ k) e => by omega)
  have hP5 := hP.elsewhere hb5 (by omega)
  have hB5 := h8.b.trans hb5 (fun i hi => .inr (by omega))
  generalize w8.setCell ⟨gx, 5, none⟩ (.slice Ab nb cb) = w5 at *
  have hb7 := lay6_but w5 gr (.string nm) (.string src) (.string part) (.int .i64 fu) (.slice A ps.length c) (.slice Ab nb cb)
  refine ⟨h8.kx, hk5, hk4, lay6_blk _ _ _ _ _ _ hk4, _, D, rfl, ⟨hok.1, hok.2.1, hok.2.2.1, hok.2.2.2, A, ps.length, c, Ab, nb, cb, rfl, ?_, ?_⟩, hP5.elsewhere hb7 (by omega), hB5.trans hb7 (fun i hi => .inr (by omega))⟩
  · exact LsAt.conv hls (Kept.of_but hb7 fun k hk e => by omega) (fun a _ _ h => by show w.heap.size ≤ _; omega) (fun r x _ hx => hx)
  · exact StsAt.conv (fun k (hk : wr.heap.size ≤ k) => by show w.heap.size ≤ k; omega) (Kept.of_but hb7 fun k (hk : wr.heap.size ≤ k) e => by omega) (Nat.le_refl D) hxs
end Go.Proofs.YtlakeanldbdedaaGreat
