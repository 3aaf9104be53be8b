/- Parts of this proof, one behind the other: ParM, ParQ. -/
import Derived.Test.YtlakeanldbdedaaGreatPr19
import Derived.Test.YtlakeanldbdedaaGreatPr4
namespace Go.Proofs.YtlakeanldbdedaaGreat
open Go.RowKit Go.Afx

theorem up_of {one : PSt → Ex × PSt} (h : ∀ s, Ge s (one s).2) : Up one := fun s => h s
theorem pExprs_fuel (gp gc gw : Nat) (W : Wds) : ∀ f, 1 ≤ f → f ≤ W.l.length + 1 → TakesE gp gc gw W 27 (exprP W f) f := by
  intro f
  induction f with
  | zero => intro h; omega
  | succ f ih =>
    intro _ hle
    have hU := up_expr W f
    have h1 := pSingle_any gp gc gw W (exprP W f) f (fun h => ih h (by omega)) hU
    have h2 := pSigned_any gp gc gw W (exprP W f) (f + 1) h1
    have h3 : TakesE gp gc gw W 148 (productP W (exprP W f)) (f + 1) := pProduct_any gp gc gw W (signedP W (exprP W f) W.fuel) (f + 1) hle h2 (up_of (up_signed W hU _))
    have h4 : TakesE gp gc gw W 134 (sumP W (exprP W f)) (f + 1) := pSum_any gp gc gw W (productP W (exprP W f)) (f + 1) hle h3 (up_of (up_product W hU))
    have h5 := pNot_any gp gc gw W (exprP W f) (f + 1) h4 (up_sum W hU)
    have h6 : TakesE gp gc gw W 69 (bothP W (exprP W f)) (f + 1) := pBoth_any gp gc gw W (notP W (exprP W f) W.fuel) (f + 1) hle h5 (up_of (up_not W hU _))
    exact pExpr_any gp gc gw W (bothP W (exprP W f)) (f + 1) hle h6 (up_of (up_both W hU))
/-- an expression is taken -/
theorem pExpr1_any (gp gc gw : Nat) (W : Wds) (s : PSt) (w : World) (h : PAt gp gc gw W s w) : Calls Tryz.prog 27 #[.pointer (some ⟨gp, 0, none⟩)] w (GivesE gp gc gw W (expr1 W s).2 (expr1 W s).1 w) :=
  pExprs_fuel gp gc gw W W.fuel (by unfold Wds.fuel; omega) (by unfold Wds.fuel; omega) s w h (fit_all W s)
theorem up_expr1 (W : Wds) (s : PSt) : Ge s (expr1 W s).2 := up_expr W _ s
theorem pWhere1_any (gp gc gw : Nat) (W : Wds) (s : PSt) (w : World) (h : PAt gp gc gw W s w) : Calls Tryz.prog 120 #[.pointer (some ⟨gp, 0, none⟩)] w (GivesE gp gc gw W (whereP W (expr1 W) s).2 (whereP W (expr1 W) s).1 w) :=
  pWhere_any gp gc gw W (exprP W W.fuel) W.fuel (pExprs_fuel gp gc gw W W.fuel (by unfold Wds.fuel; omega) (by unfold Wds.fuel; omega)) s w h (fit_all W s)
end Go.Proofs.YtlakeanldbdedaaGreat

namespace Go.Afx
open Go.RowKit

section
variable (W : Wds)
/-- things with commas between, in a list that grows -/
def listP {α : Type} (one : PSt → α × PSt) : Nat → List α → PSt → List α × PSt
  | 0, l, s => (l, s)
  | f + 1, l, s => if (mayP W (str [44]) s).1 then listP one f (l ++ [(one (mayP W (str [44]) s).2).1]) (one (mayP W (str [44]) s).2).2 else (l, s)
def list1 {α : Type} (one : PSt → α × PSt) (s : PSt) : List α × PSt := listP W one W.fuel [(one s).1] (one s).2
def exprsP (s : PSt) : List Ex × PSt := list1 W (expr1 W) s
def st0 : St := .mk 0 nil0 nil0 0 [] [] [] []
def assignP (op : Int) (s : PSt) : St × PSt :=
  let a := nameP W s
  let e := expr1 W (mustP W [(str [61])] a.2)
  (.mk op a.1 nil0 0 [] [e.1] [] [], e.2)
def intoP (op : Int) (s : PSt) : St × PSt :=
  let a := nameP W s
  let l := exprsP W (enterP (mustP W [(str [40])] a.2))
  (.mk op nil0 a.1 0 [] l.1 [] [], leaveP (mustP W [(str [41])] l.2))
def setP (s : PSt) : (ByteArray × Ex) × PSt :=
  let a := nameP W s
  let e := expr1 W (mustP W [(str [61])] a.2)
  ((a.1, e.1), e.2)
def changeP (s : PSt) : St × PSt :=
  let r := rowsP W s
  let a := whereP W (expr1 W) r.2
  let l := list1 W (setP W) (mustP W [(str [115, 101, 116])] a.2)
  (.mk 4 r.1.1 r.1.2 0 (l.1.map (·.1)) (a.1 :: l.1.map (·.2)) [] [], l.2)
def plainP (s : PSt) : St × PSt :=
  if (mayP W (str [108, 101, 116]) s).1 then assignP W 1 (mayP W (str [108, 101, 116]) s).2
  else if (mayP W (str [115, 101, 116]) s).1 then assignP W 2 (mayP W (str [115, 101, 116]) s).2
  else if (mayP W (str [105, 110, 115, 101, 114, 116]) s).1 then intoP W 3 (mayP W (str [105, 110, 115, 101, 114, 116]) s).2
  else if (mayP W (str [101, 109, 105, 116]) s).1 then intoP W 8 (mayP W (str [101, 109, 105, 116]) s).2
  else if (mayP W (str [117, 112, 100, 97, 116, 101]) s).1 then changeP W (mayP W (str [117, 112, 100, 97, 116, 101]) s).2
  else if (mayP W (str [100, 101, 108, 101, 116, 101]) s).1 then
    let r := rowsP W (mayP W (str [100, 101, 108, 101, 116, 101]) s).2
    let a := whereP W (expr1 W) r.2
    (.mk 5 r.1.1 r.1.2 0 [] [a.1] [] [], a.2)
  else if (mayP W (str [97, 98, 111, 114, 116]) s).1 then
    let e := expr1 W (mayP W (str [97, 98, 111, 114, 116]) s).2
    (.mk 9 nil0 nil0 0 [] [e.1] [] [], e.2)
  else if (mayP W (str [114, 101, 112, 108, 121]) s).1 then
    let l := exprsP W (mayP W (str [114, 101, 112, 108, 121]) s).2
    (.mk 10 nil0 nil0 0 [] l.1 [] [], l.2)
  else (st0, s.fail)
def limitP (s : PSt) : Int × PSt :=
  let s1 := if (W.look s.at_).kind = 1 ∧ (W.look s.at_).n = 0 then s.fail else s
  (min (numP W s1).1 1001, (numP W s1).2)
section
variable (B : PSt → List St × PSt)
def forP (s : PSt) : St × PSt :=
  let r := rowsP W s
  let a := whereP W (expr1 W) r.2
  let n := if (mayP W (str [108, 105, 109, 105, 116]) a.2).1 then limitP W (mayP W (str [108, 105, 109, 105, 116]) a.2).2 else (0, a.2)
  let b := B n.2
  (.mk 6 r.1.1 r.1.2 n.1 [] [a.1] b.1 [], b.2)
def ifP (s : PSt) : St × PSt :=
  let e := expr1 W s
  let b := B e.2
  if (mayP W (str [101, 108, 115, 101]) b.2).1 then (.mk 7 nil0 nil0 0 [] [e.1] b.1 (B (mayP W (str [101, 108, 115, 101]) b.2).2).1, (B (mayP W (str [101, 108, 115, 101]) b.2).2).2)
  else (.mk 7 nil0 nil0 0 [] [e.1] b.1 [], b.2)
def stmtP (s : PSt) : St × PSt :=
  if (mayP W (str [102, 111, 114]) s).1 then forP W B (mayP W (str [102, 111, 114]) s).2
  else if (mayP W (str [105, 102]) s).1 then ifP W B (mayP W (str [105, 102]) s).2
  else
    let x := plainP W s
    (x.1, mustP W [(str [59])] x.2)
end
def stmtsP (one : PSt → St × PSt) : Nat → List St → PSt → List St × PSt
  | 0, l, s => (l, s)
  | f + 1, l, s => if !s.bad && !isP W s (str [125]) then stmtsP one f (l ++ [(one s).1]) (one s).2 else (l, s)
def blockP : Nat → PSt → List St × PSt
  | 0, s => ([], s)
  | f + 1, s =>
    let l := stmtsP W (stmtP W (blockP f)) W.fuel [] (enterP (mustP W [(str [123])] s))
    (l.1, leaveP (mustP W [(str [125])] l.2))
def block1 (s : PSt) : List St × PSt := blockP W W.fuel s
def kindP (s : PSt) : Int × PSt :=
  if (mayP W (str [105, 110, 116]) s).1 then (1, (mayP W (str [105, 110, 116]) s).2) else if (mayP W (str [116, 101, 120, 116]) s).1 then (2, (mayP W (str [116, 101, 120, 116]) s).2) else if (mayP W (str [98, 111, 111, 108]) s).1 then (3, (mayP W (str [98, 111, 111, 108]) s).2) else (0, s.fail)
def paramP (s : PSt) : Co × PSt :=
  let a := nameP W s
  let k := kindP W a.2
  (⟨a.1, k.1⟩, k.2)
def fuelP (s : PSt) : Int × PSt := if (mayP W (str [102, 117, 101, 108]) s).1 then (min (numP W (mayP W (str [102, 117, 101, 108]) s).2).1 2001, (numP W (mayP W (str [102, 117, 101, 108]) s).2).2) else (100, s)
def procP (s : PSt) : Pr × PSt :=
  let a := nameP W (mustP W [(str [112, 114, 111, 99])] s)
  let s1 := enterP (mustP W [(str [40])] a.2)
  let l := if isP W s1 (str [41]) then ([], s1) else list1 W (paramP W) s1
  let s2 := leaveP (mustP W [(str [41])] l.2)
  let o := if (mayP W (str [111, 110]) s2).1 then nameP W (mayP W (str [111, 110]) s2).2 else (nil0, s2)
  let f := if (mayP W (str [111, 110]) s2).1 then (nil0, o.2) else if (mayP W (str [102, 114, 111, 109]) s2).1 then nameP W (mayP W (str [102, 114, 111, 109]) s2).2 else (nil0, s2)
  let u := fuelP W f.2
  let b := block1 W u.2
  (⟨a.1, f.1, o.1, u.1, l.1, b.1⟩, b.2)
end
def PSt.start : PSt := ⟨0, 0, false, false⟩
end Go.Afx
