/- Parts of this proof, one behind the other: ParP. -/
import Derived.Test.YtlakeanldbdedaaGreatPr3
namespace Go.Afx
open Go.RowKit

/-- a word; its kinds: 0 a sign, 1 a number, 2 a text, 3 a name, 4 the end -/
structure Wd where
  kind : Int
  text : ByteArray
  n : Int
  at_ : Int
/-- what is gone through, and where the text ends -/
structure Wds where
  l : List Wd
  end_ : Int
/-- a parser: where it stands, how many are open, whether too many, whether it can't go on -/
structure PSt where
  at_ : Nat
  deep : Int
  over : Bool
  bad : Bool
def Wds.look (W : Wds) (i : Nat) : Wd := (W.l[i]?).getD ⟨4, str [], 0, W.end_⟩
def Wd.says (x : Wd) (t : ByteArray) : Bool := (decide (x.kind = 0) || decide (x.kind = 3)) && decide (x.text = t)
def PSt.on (s : PSt) : PSt := { s with at_ := s.at_ + 1 }
def PSt.fail (s : PSt) : PSt := { s with bad := true }
section
variable (W : Wds)
def isP (s : PSt) (t : ByteArray) : Bool := (W.look s.at_).says t
def mayP (t : ByteArray) (s : PSt) : Bool × PSt := if !s.bad && isP W s t then (true, s.on) else (false, s)
def mustP : List ByteArray → PSt → PSt
  | [], s => s
  | t :: r, s => if (mayP W t s).1 then mustP r (mayP W t s).2 else s.fail
def upP (s : PSt) : PSt := { s with deep := wrap64 (s.deep + 1) }
def enterP (s : PSt) : PSt := if decide (60 < (upP s).deep) && !s.bad then { upP s with over := true, bad := true } else upP s
def leaveP (s : PSt) : PSt := { s with deep := wrap64 (s.deep - 1) }
def nameP (s : PSt) : ByteArray × PSt := if s.bad || !decide ((W.look s.at_).kind = 3) || resB (W.look s.at_).text then (str [], s.fail) else ((W.look s.at_).text, s.on)
def numP (s : PSt) : Int × PSt := if s.bad then (0, s) else if (W.look s.at_).kind = 1 then ((W.look s.at_).n, s.on) else (0, s.fail)
def nil0 : ByteArray := str []
def ex0 : Ex := .mk 0 0 nil0 nil0 nil0 []
def twoP (op : Int) (a b : Ex) : Ex := .mk op 0 nil0 nil0 nil0 [a, b]
def oneP (op : Int) (a : Ex) : Ex := .mk op 0 nil0 nil0 nil0 [a]
/-- the op of the sign that stands there; 0: none of these does -/
def opP : List (ByteArray × Int) → PSt → Int × PSt
  | [], s => (0, s)
  | (t, op) :: r, s => if (mayP W t s).1 then (op, (mayP W t s).2) else opP r s
def chainP (l : List (ByteArray × Int)) (one : PSt → Ex × PSt) : Nat → Ex → PSt → Ex × PSt
  | 0, e, s => (e, s)
  | f + 1, e, s => if (opP W l s).1 = 0 then (e, (opP W l s).2) else chainP l one f (twoP (opP W l s).1 e (one (opP W l s).2).1) (one (opP W l s).2).2
def rowsP (s : PSt) : (ByteArray × ByteArray) × PSt :=
  let a := nameP W s
  let b := nameP W (mustP W [(str [105, 110])] a.2)
  ((a.1, b.1), b.2)
section
variable (E : PSt → Ex × PSt)
def whereP (s : PSt) : Ex × PSt := if (mayP W (str [119, 104, 101, 114, 101]) s).1 then E (mayP W (str [119, 104, 101, 114, 101]) s).2 else (.mk 3 1 nil0 nil0 nil0 [], s)
def foldOp (s : PSt) : Int × PSt :=
  if (mayP W (str [99, 111, 117, 110, 116]) s).1 then (21, (mayP W (str [99, 111, 117, 110, 116]) s).2) else if (mayP W (str [115, 117, 109]) s).1 then (22, (mayP W (str [115, 117, 109]) s).2) else if (mayP W (str [109, 105, 110]) s).1 then (23, (mayP W (str [109, 105, 110]) s).2) else (24, mustP W [(str [109, 97, 120])] s)
def foldP (s : PSt) : Ex × PSt :=
  let o := foldOp W s
  let r := rowsP W (enterP (mustP W [(str [40])] o.2))
  let a := whereP W E r.2
  if o.1 = 21 then (.mk 21 0 nil0 r.1.1 r.1.2 [a.1], leaveP (mustP W [(str [41])] a.2))
  else
    let b := E (mustP W [(str [58])] a.2)
    (.mk o.1 0 nil0 r.1.1 r.1.2 [a.1, b.1], leaveP (mustP W [(str [41])] b.2))
def parenP (s : PSt) : Ex × PSt :=
  let a := E (enterP (mustP W [(str [40])] s))
  (a.1, leaveP (mustP W [(str [41])] a.2))
def varP (s : PSt) : Ex × PSt :=
  let a := nameP W s
  if (mayP W (str [46]) a.2).1 then
    let b := nameP W (mayP W (str [46]) a.2).2
    (.mk 5 0 b.1 a.1 nil0 [], b.2)
  else (.mk 4 0 nil0 a.1 nil0 [], a.2)
def singleP (s : PSt) : Ex × PSt :=
  if s.bad then (ex0, s)
  else if (W.look s.at_).kind = 1 then (.mk 1 (W.look s.at_).n nil0 nil0 nil0 [], s.on)
  else if (W.look s.at_).kind = 2 then (.mk 2 0 (W.look s.at_).text nil0 nil0 [], s.on)
  else if isP W s (str [116, 114, 117, 101]) then (.mk 3 1 nil0 nil0 nil0 [], s.on)
  else if isP W s (str [102, 97, 108, 115, 101]) then (.mk 3 0 nil0 nil0 nil0 [], s.on)
  else if isP W s (str [99, 111, 117, 110, 116]) || isP W s (str [115, 117, 109]) || isP W s (str [109, 105, 110]) || isP W s (str [109, 97, 120]) then foldP W E s
  else if isP W s (str [40]) then parenP W E s
  else varP W s
def signedP : Nat → PSt → Ex × PSt
  | 0, s => (ex0, s)
  | f + 1, s => if (mayP W (str [45]) s).1 then (oneP 20 (signedP f (enterP (mayP W (str [45]) s).2)).1, leaveP (signedP f (enterP (mayP W (str [45]) s).2)).2) else singleP W E s
end
/-- how many rounds there can be -/
def Wds.fuel : Nat := W.l.length + 1
def lvOr : List (ByteArray × Int) := [((str [111, 114]), 18)]
def lvAnd : List (ByteArray × Int) := [((str [97, 110, 100]), 17)]
def lvCmp : List (ByteArray × Int) := [((str [61]), 11), ((str [33, 61]), 12), ((str [60]), 13), ((str [60, 61]), 14), ((str [62, 61]), 15), ((str [62]), 16)]
def lvSum : List (ByteArray × Int) := [((str [43]), 6), ((str [45]), 7)]
def lvMul : List (ByteArray × Int) := [((str [42]), 8), ((str [47]), 9), ((str [37]), 10)]
section
variable (E : PSt → Ex × PSt)
def chain1 (l : List (ByteArray × Int)) (one : PSt → Ex × PSt) (s : PSt) : Ex × PSt := chainP W l one W.fuel (one s).1 (one s).2
def productP (s : PSt) : Ex × PSt := chain1 W lvMul (signedP W E W.fuel) s
def sumP (s : PSt) : Ex × PSt := chain1 W lvSum (productP W E) s
def cmpP (s : PSt) : Ex × PSt :=
  let a := sumP W E s
  let o := opP W lvCmp a.2
  if o.1 = 0 then (a.1, o.2)
  else
    let b := sumP W E o.2
    (twoP o.1 a.1 b.1, b.2)
def notP : Nat → PSt → Ex × PSt
  | 0, s => (ex0, s)
  | f + 1, s => if (mayP W (str [110, 111, 116]) s).1 then (oneP 19 (notP f (enterP (mayP W (str [110, 111, 116]) s).2)).1, leaveP (notP f (enterP (mayP W (str [110, 111, 116]) s).2)).2) else cmpP W E s
def bothP (s : PSt) : Ex × PSt := chain1 W lvAnd (notP W E W.fuel) s
end
def exprP : Nat → PSt → Ex × PSt
  | 0, s => (ex0, s)
  | f + 1, s => chain1 W lvOr (bothP W (exprP f)) s
def expr1 (s : PSt) : Ex × PSt := exprP W W.fuel s
end
end Go.Afx
