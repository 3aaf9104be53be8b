/- Syntax, part K: whether a statement has just what its op has. -/
import Derived.Test.YtgihhkfppnhdpaaSynJ1
import Derived.Test.YtgihhkfppnhdpaaSynJ2
import Derived.Test.YtgihhkfppnhdpaaSynJ3
import Derived.Test.YtgihhkfppnhdpaaSynJ4
namespace Go.Proofs.Ytgihhkfppnhdpaa
open Go.RowKit Go.Afx

theorem shape_any (F : Nat → Prop) (name src : ByteArray) (n : Int) (Ac Ae Ab Al : Option Addr) (nc cc ne ce nb cb nl cl : Nat) (cols : List ByteArray) (w : World) (op : Int) (hc : LsAt F w 1 SRow Ac nc cc cols) (okn : okS name) (oks : okS src) :
    Calls Try.prog 71 #[.agg #[.int .i64 op, .string name, .string src, .int .i64 n, .slice Ac nc cc, .slice Ae ne ce, .slice Ab nb cb, .slice Al nl cl]] w fun x w' => x = .returned (.bool (shapeR op name src n cols ne nb nl)) ∧ Below w.heap.size w w' := by
  by_cases e1 : op = 1
  · subst e1; exact shapeK_1 F name src n Ac Ae Ab Al nc cc ne ce nb cb nl cl cols w hc okn
  by_cases e2 : op = 2
  · subst e2; exact shapeK_2 F name src n Ac Ae Ab Al nc cc ne ce nb cb nl cl cols w hc okn
  by_cases e3 : op = 3
  · subst e3; exact shapeK_3 F name src n Ac Ae Ab Al nc cc ne ce nb cb nl cl cols w hc oks
  by_cases e4 : op = 4
  · subst e4; exact shapeK_4 F name src n Ac Ae Ab Al nc cc ne ce nb cb nl cl cols w hc okn oks
  by_cases e5 : op = 5
  · subst e5; exact shapeK_5 F name src n Ac Ae Ab Al nc cc ne ce nb cb nl cl cols w hc okn oks
  by_cases e6 : op = 6
  · subst e6; exact shapeK_6 F name src n Ac Ae Ab Al nc cc ne ce nb cb nl cl cols w hc okn oks
  by_cases e7 : op = 7
  · subst e7; exact shapeK_7 F name src n Ac Ae Ab Al nc cc ne ce nb cb nl cl cols w hc
  by_cases e8 : op = 8
  · subst e8; exact shapeK_8 F name src n Ac Ae Ab Al nc cc ne ce nb cb nl cl cols w hc oks
  by_cases e9 : op = 9
  · subst e9; exact shapeK_9 F name src n Ac Ae Ab Al nc cc ne ce nb cb nl cl cols w hc
  by_cases e10 : op = 10
  · subst e10; exact shapeK_10 F name src n Ac Ae Ab Al nc cc ne ce nb cb nl cl cols w hc
  have hr : shapeR op name src n cols ne nb nl = false := by
    unfold shapeR
    repeat (rw [if_neg (by omega)])
  have Hr := Lib.hid hr
  clear hr hc
  have d1 : (op == 1) = false := by simpa using e1
  have d2 : (op == 2) = false := by simpa using e2
  have d3 : (op == 3) = false := by simpa using e3
  have d4 : (op == 4) = false := by simpa using e4
  have d5 : (op == 5) = false := by simpa using e5
  have d6 : (op == 6) = false := by simpa using e6
  have d7 : (op == 7) = false := by simpa using e7
  have d8 : (op == 8) = false := by simpa using e8
  have d9 : (op == 9) = false := by simpa using e9
  have d10 : (op == 10) = false := by simpa using e10
  go_enter Try.func71, Try.ntmps71
  go_wp2
  go_ret
  exact ⟨ret_bool Hr.out.symm, (Below.refl _ _).alloc (Nat.le_refl _) _⟩
end Go.Proofs.Ytgihhkfppnhdpaa
