/- Parts of this proof, one behind the other: PrtH. -/
import Derived.Test.YthiimingnmbgmaaDoorPe30
namespace Go.Proofs.YthiimingnmbgmaaDoor
open Go.RowKit Go.Afx

theorem one_len {a b : List UInt8} {n : Nat} (h : a.length + b.length ≤ n) {c : List UInt8} (e : c = b) : a.length + c.length ≤ n := by rw [e]; exact h
/-- a text that is put at the end of a walk -/
theorem txt_op {d : Nat} {op n : Int} {s name src : ByteArray} {args : List Ex} : txtE (d + 1) (.mk op n s name src args) = (if op = 1 then decS n
    else if op = 2 then quoteS s
    else if op = 3 then (if n = 1 then trueL else falseL)
    else if op = 4 then name.data.toList
    else if op = 5 then name.data.toList ++ [46] ++ s.data.toList
    else match args with
      | [] => []
      | a :: r =>
        if op = 19 ∨ op = 20 then sgnL op ++ opnd (lvlZ op) a.op (txtE d a)
        else if 21 ≤ op then sgnL op ++ [40] ++ rowsT name src a.op a.n (txtE d a) ++ (if op = 21 then [] else [58, 32] ++ (match r with | [] => [] | b :: _ => txtE d b)) ++ [41]
        else opnd (lvlZ op + if lvlZ op = 4 then 1 else 0) a.op (txtE d a) ++ ([32] ++ sgnL op ++ [32]) ++ (match r with | [] => [] | b :: _ => opnd (lvlZ op + 1) b.op (txtE d b))) := by rw [txtE]; rfl
theorem nl_op {d : Nat} {op n : Int} {s name src : ByteArray} {args : List Ex} : nlE (d + 1) (.mk op n s name src args) = ((decide (op = 2) && s.data.toList.any (· == 10)) || args.any (nlE d)) := by rw [nlE]; rfl
theorem fields_op {d : Nat} {op n : Int} {s name src : ByteArray} {args : List Ex} (h : builtE (d + 1) (.mk op n s name src args) = true) : arityB op = args.length ∧ fieldsR op n s name src = true ∧ ∀ x ∈ args, builtE d x = true := built_parts h
theorem no_args {op : Int} {args : List Ex} (h : arityB op = args.length) (h5 : op = 1 ∨ op = 2 ∨ op = 3 ∨ op = 4 ∨ op = 5) : args = [] := by
  have : arityB op = 0 := by rcases h5 with rfl | rfl | rfl | rfl | rfl <;> rfl
  exact List.eq_nil_of_length_eq_zero (by omega)

set_option maxHeartbeats 2000000 in
theorem expr_int (n : Int) (s name src : ByteArray) (A : Option Addr) (m c : Nat) (g : Nat) (t : List UInt8) (br : Bool) (w : World) (h : WtAt g t br w) (hn : 0 ≤ n) (hn2 : n ≤ 9223372036854775807) (hlen : t.length + (decS n).length ≤ 1000000000) :
    Calls Tryd.prog 17 #[.pointer (some ⟨g, 0, none⟩), .agg #[.int .i64 1, .int .i64 n, .string s, .string name, .string src, .slice A m c]] w fun e' w' => e' = .returned (.tuple #[]) ∧ WtAt g (t ++ decS n) br w' ∧ Wrote g w w' := by
  have Hsg := Lib.hid (fun W => sign_any 1 W (by decide) (by decide))
  have Hcp := Lib.hid (fun W => calcPrint_any n W hn hn2)
  obtain ⟨w1, Hw1⟩ : ∃ w1, Hid (w1 = w.alloc (.cells #[.int .i64 1, .int .i64 n, .string s, .string name, .string src, .slice A m c] 35)) := ⟨_, rfl⟩
  have hb1 : Below w.heap.size w w1 := by rw [Hw1.out]; exact (Below.refl _ _).alloc (Nat.le_refl _) _
  have hk1 : IsBlk w1 w.heap.size 35 #[.int .i64 1, .int .i64 n, .string s, .string name, .string src, .slice A m c] := by rw [Hw1.out]; exact IsBlk.laid _ _ _
  have Hx := Lib.hid (fun W (hW : Below w1.heap.size w1 W) => box6 (hk1.as_was (hW.block _ hk1.lt)))
  have hR : Below w1.heap.size w1 w1 := Below.refl _ _
  obtain ⟨x0, x1, x2, x3, x4, x5, xl⟩ := Hx.out _ hR
  have Hb := Lib.hid (And.intro hb1 h)
  have Hlen := Lib.hid hlen
  clear hk1 h hlen hn hn2 hb1
  go_enter Tryd.func17, Tryd.ntmps17
  go_upto_region 1 with (fail)
  rw [← Hw1.out]
  go_wp2_with (first
    | (go_at_call 29; refine (Hsg.out _).mono ?_; rintro e' w2 ⟨rfl, hb2⟩; replace hR := hR.trans (hb2.mono hR.size); obtain ⟨x0, x1, x2, x3, x4, x5, xl⟩ := Hx.out _ hR)
    | (go_at_call 31; refine (Hcp.out _).mono ?_; rintro e' w3 ⟨rfl, hb3⟩; replace hR := hR.trans (hb3.mono hR.size)))
  have hB := Hb.out.1.trans (hR.mono Hb.out.1.size)
  refine (put_new g 1 t br [⟨(decS n).toArray⟩] _ (Hb.out.2.below hB) rfl (by decide) (by simpa [catL] using Hlen.out)).mono ?_
  rintro e' w4 ⟨rfl, hwt4, hr4⟩
  have e4 : t ++ catL [⟨(decS n).toArray⟩] = t ++ decS n := by simp [catL]
  rw [e4] at hwt4
  have H4 := Lib.hid (And.intro hwt4 ((Wrote.of_below (Nat.le_of_lt Hb.out.2.lt) hB).trans hr4))
  clear hwt4 hr4
  go_wp2
  go_end0
  exact ⟨rfl, H4.out.1, H4.out.2⟩
set_option maxHeartbeats 2000000 in
theorem expr_false (s name src : ByteArray) (A : Option Addr) (m c : Nat) (g : Nat) (t : List UInt8) (br : Bool) (w : World) (h : WtAt g t br w) (hlen : t.length + (falseL).length ≤ 1000000000) :
    Calls Tryd.prog 17 #[.pointer (some ⟨g, 0, none⟩), .agg #[.int .i64 3, .int .i64 0, .string s, .string name, .string src, .slice A m c]] w fun e' w' => e' = .returned (.tuple #[]) ∧ WtAt g (t ++ (falseL)) br w' ∧ Wrote g w w' := by
  have Hsg := Lib.hid (fun W => sign_any 3 W (by decide) (by decide))
  have Hbo := Lib.hid (fun W => (show Calls Tryd.prog 35 #[.bool false] W fun e w' => e = .returned (.agg #[.int .i64 3, .int .i64 0, .string ⟨#[]⟩]) ∧ Below W.heap.size W w' from bool_any false W))
  have Hvp := Lib.hid (fun W => (show Calls Tryd.prog 33 #[.agg #[.int .i64 3, .int .i64 0, .string ⟨#[]⟩]] W fun e w' => e = .returned (.string ⟨falseL.toArray⟩) ∧ Below W.heap.size W w' from valBool_any false W))
  obtain ⟨w1, Hw1⟩ : ∃ w1, Hid (w1 = w.alloc (.cells #[.int .i64 3, .int .i64 0, .string s, .string name, .string src, .slice A m c] 35)) := ⟨_, rfl⟩
  have hb1 : Below w.heap.size w w1 := by rw [Hw1.out]; exact (Below.refl _ _).alloc (Nat.le_refl _) _
  have hk1 : IsBlk w1 w.heap.size 35 #[.int .i64 3, .int .i64 0, .string s, .string name, .string src, .slice A m c] := by rw [Hw1.out]; exact IsBlk.laid _ _ _
  have Hx := Lib.hid (fun W (hW : Below w1.heap.size w1 W) => box6 (hk1.as_was (hW.block _ hk1.lt)))
  have hR : Below w1.heap.size w1 w1 := Below.refl _ _
  obtain ⟨x0, x1, x2, x3, x4, x5, xl⟩ := Hx.out _ hR
  have Hb := Lib.hid (And.intro hb1 h)
  have Hlen := Lib.hid hlen
  clear hk1 h hlen hb1
  go_enter Tryd.func17, Tryd.ntmps17
  go_upto_region 1 with (fail)
  rw [← Hw1.out]
  go_wp2_with (first
    | (go_at_call 29; refine (Hsg.out _).mono ?_; rintro e' w2 ⟨rfl, hb2⟩; replace hR := hR.trans (hb2.mono hR.size); obtain ⟨x0, x1, x2, x3, x4, x5, xl⟩ := Hx.out _ hR)
    | (go_at_call 35; refine (Hbo.out _).mono ?_; rintro e' w5 ⟨rfl, hb5⟩; replace hR := hR.trans (hb5.mono hR.size); obtain ⟨x0, x1, x2, x3, x4, x5, xl⟩ := Hx.out _ hR)
    | (go_at_call 33; refine (Hvp.out _).mono ?_; rintro e' w6 ⟨rfl, hb6⟩; replace hR := hR.trans (hb6.mono hR.size); obtain ⟨x0, x1, x2, x3, x4, x5, xl⟩ := Hx.out _ hR))
  have hB := Hb.out.1.trans (hR.mono Hb.out.1.size)
  refine (put_new g 1 t br [⟨falseL.toArray⟩] _ (Hb.out.2.below hB) rfl (by decide) (by simpa [catL, trueL, falseL] using Hlen.out)).mono ?_
  rintro e' w4 ⟨rfl, hwt4, hr4⟩
  have e4 : t ++ catL [⟨falseL.toArray⟩] = t ++ (falseL) := by simp [catL]
  rw [e4] at hwt4
  have H4 := Lib.hid (And.intro hwt4 ((Wrote.of_below (Nat.le_of_lt Hb.out.2.lt) hB).trans hr4))
  clear hwt4 hr4
  go_wp2
  go_end0
  exact ⟨rfl, H4.out.1, H4.out.2⟩
set_option maxHeartbeats 2000000 in
theorem expr_true (s name src : ByteArray) (A : Option Addr) (m c : Nat) (g : Nat) (t : List UInt8) (br : Bool) (w : World) (h : WtAt g t br w) (hlen : t.length + (trueL).length ≤ 1000000000) :
    Calls Tryd.prog 17 #[.pointer (some ⟨g, 0, none⟩), .agg #[.int .i64 3, .int .i64 1, .string s, .string name, .string src, .slice A m c]] w fun e' w' => e' = .returned (.tuple #[]) ∧ WtAt g (t ++ (trueL)) br w' ∧ Wrote g w w' := by
  have Hsg := Lib.hid (fun W => sign_any 3 W (by decide) (by decide))
  have Hbo := Lib.hid (fun W => (show Calls Tryd.prog 35 #[.bool true] W fun e w' => e = .returned (.agg #[.int .i64 3, .int .i64 1, .string ⟨#[]⟩]) ∧ Below W.heap.size W w' from bool_any true W))
  have Hvp := Lib.hid (fun W => (show Calls Tryd.prog 33 #[.agg #[.int .i64 3, .int .i64 1, .string ⟨#[]⟩]] W fun e w' => e = .returned (.string ⟨trueL.toArray⟩) ∧ Below W.heap.size W w' from valBool_any true W))
  obtain ⟨w1, Hw1⟩ : ∃ w1, Hid (w1 = w.alloc (.cells #[.int .i64 3, .int .i64 1, .string s, .string name, .string src, .slice A m c] 35)) := ⟨_, rfl⟩
  have hb1 : Below w.heap.size w w1 := by rw [Hw1.out]; exact (Below.refl _ _).alloc (Nat.le_refl _) _
  have hk1 : IsBlk w1 w.heap.size 35 #[.int .i64 3, .int .i64 1, .string s, .string name, .string src, .slice A m c] := by rw [Hw1.out]; exact IsBlk.laid _ _ _
  have Hx := Lib.hid (fun W (hW : Below w1.heap.size w1 W) => box6 (hk1.as_was (hW.block _ hk1.lt)))
  have hR : Below w1.heap.size w1 w1 := Below.refl _ _
  obtain ⟨x0, x1, x2, x3, x4, x5, xl⟩ := Hx.out _ hR
  have Hb := Lib.hid (And.intro hb1 h)
  have Hlen := Lib.hid hlen
  clear hk1 h hlen hb1
  go_enter Tryd.func17, Tryd.ntmps17
  go_upto_region 1 with (fail)
  rw [← Hw1.out]
  go_wp2_with (first
    | (go_at_call 29; refine (Hsg.out _).mono ?_; rintro e' w2 ⟨rfl, hb2⟩; replace hR := hR.trans (hb2.mono hR.size); obtain ⟨x0, x1, x2, x3, x4, x5, xl⟩ := Hx.out _ hR)
    | (go_at_call 35; refine (Hbo.out _).mono ?_; rintro e' w5 ⟨rfl, hb5⟩; replace hR := hR.trans (hb5.mono hR.size); obtain ⟨x0, x1, x2, x3, x4, x5, xl⟩ := Hx.out _ hR)
    | (go_at_call 33; refine (Hvp.out _).mono ?_; rintro e' w6 ⟨rfl, hb6⟩; replace hR := hR.trans (hb6.mono hR.size); obtain ⟨x0, x1, x2, x3, x4, x5, xl⟩ := Hx.out _ hR))
  have hB := Hb.out.1.trans (hR.mono Hb.out.1.size)
  refine (put_new g 1 t br [⟨trueL.toArray⟩] _ (Hb.out.2.below hB) rfl (by decide) (by simpa [catL, trueL, falseL] using Hlen.out)).mono ?_
  rintro e' w4 ⟨rfl, hwt4, hr4⟩
  have e4 : t ++ catL [⟨trueL.toArray⟩] = t ++ (trueL) := by simp [catL]
  rw [e4] at hwt4
  have H4 := Lib.hid (And.intro hwt4 ((Wrote.of_below (Nat.le_of_lt Hb.out.2.lt) hB).trans hr4))
  clear hwt4 hr4
  go_wp2
  go_end0
  exact ⟨rfl, H4.out.1, H4.out.2⟩
set_option maxHeartbeats 2000000 in
theorem expr_var (n : Int) (s name src : ByteArray) (A : Option Addr) (m c : Nat) (g : Nat) (t : List UInt8) (br : Bool) (w : World) (h : WtAt g t br w) (hlen : t.length + (name.data.toList).length ≤ 1000000000) :
    Calls Tryd.prog 17 #[.pointer (some ⟨g, 0, none⟩), .agg #[.int .i64 4, .int .i64 n, .string s, .string name, .string src, .slice A m c]] w fun e' w' => e' = .returned (.tuple #[]) ∧ WtAt g (t ++ (name.data.toList)) br w' ∧ Wrote g w w' := by
  have Hsg := Lib.hid (fun W => sign_any 4 W (by decide) (by decide))
  obtain ⟨w1, Hw1⟩ : ∃ w1, Hid (w1 = w.alloc (.cells #[.int .i64 4, .int .i64 n, .string s, .string name, .string src, .slice A m c] 35)) := ⟨_, rfl⟩
  have hb1 : Below w.heap.size w w1 := by rw [Hw1.out]; exact (Below.refl _ _).alloc (Nat.le_refl _) _
  have hk1 : IsBlk w1 w.heap.size 35 #[.int .i64 4, .int .i64 n, .string s, .string name, .string src, .slice A m c] := by rw [Hw1.out]; exact IsBlk.laid _ _ _
  have Hx := Lib.hid (fun W (hW : Below w1.heap.size w1 W) => box6 (hk1.as_was (hW.block _ hk1.lt)))
  have hR : Below w1.heap.size w1 w1 := Below.refl _ _
  obtain ⟨x0, x1, x2, x3, x4, x5, xl⟩ := Hx.out _ hR
  have Hb := Lib.hid (And.intro hb1 h)
  have Hlen := Lib.hid hlen
  clear hk1 h hlen hb1
  go_enter Tryd.func17, Tryd.ntmps17
  go_upto_region 1 with (fail)
  rw [← Hw1.out]
  go_wp2_with (first
    | (go_at_call 29; refine (Hsg.out _).mono ?_; rintro e' w2 ⟨rfl, hb2⟩; replace hR := hR.trans (hb2.mono hR.size); obtain ⟨x0, x1, x2, x3, x4, x5, xl⟩ := Hx.out _ hR))
  have hB := Hb.out.1.trans (hR.mono Hb.out.1.size)
  refine (put_new g 1 t br [name] _ (Hb.out.2.below hB) rfl (by decide) (by simpa [catL, trueL, falseL] using Hlen.out)).mono ?_
  rintro e' w4 ⟨rfl, hwt4, hr4⟩
  have e4 : t ++ catL [name] = t ++ (name.data.toList) := by simp [catL]
  rw [e4] at hwt4
  have H4 := Lib.hid (And.intro hwt4 ((Wrote.of_below (Nat.le_of_lt Hb.out.2.lt) hB).trans hr4))
  clear hwt4 hr4
  go_wp2
  go_end0
  exact ⟨rfl, H4.out.1, H4.out.2⟩
set_option maxHeartbeats 2000000 in
theorem expr_col (n : Int) (s name src : ByteArray) (A : Option Addr) (m c : Nat) (g : Nat) (t : List UInt8) (br : Bool) (w : World) (h : WtAt g t br w) (hlen : t.length + (name.data.toList ++ [46] ++ s.data.toList).length ≤ 1000000000) :
    Calls Tryd.prog 17 #[.pointer (some ⟨g, 0, none⟩), .agg #[.int .i64 5, .int .i64 n, .string s, .string name, .string src, .slice A m c]] w fun e' w' => e' = .returned (.tuple #[]) ∧ WtAt g (t ++ (name.data.toList ++ [46] ++ s.data.toList)) br w' ∧ Wrote g w w' := by
  have Hsg := Lib.hid (fun W => sign_any 5 W (by decide) (by decide))
  obtain ⟨w1, Hw1⟩ : ∃ w1, Hid (w1 = w.alloc (.cells #[.int .i64 5, .int .i64 n, .string s, .string name, .string src, .slice A m c] 35)) := ⟨_, rfl⟩
  have hb1 : Below w.heap.size w w1 := by rw [Hw1.out]; exact (Below.refl _ _).alloc (Nat.le_refl _) _
  have hk1 : IsBlk w1 w.heap.size 35 #[.int .i64 5, .int .i64 n, .string s, .string name, .string src, .slice A m c] := by rw [Hw1.out]; exact IsBlk.laid _ _ _
  have Hx := Lib.hid (fun W (hW : Below w1.heap.size w1 W) => box6 (hk1.as_was (hW.block _ hk1.lt)))
  have hR : Below w1.heap.size w1 w1 := Below.refl _ _
  obtain ⟨x0, x1, x2, x3, x4, x5, xl⟩ := Hx.out _ hR
  have Hb := Lib.hid (And.intro hb1 h)
  have Hlen := Lib.hid hlen
  clear hk1 h hlen hb1
  go_enter Tryd.func17, Tryd.ntmps17
  go_upto_region 1 with (fail)
  rw [← Hw1.out]
  go_wp2_with (first
    | (go_at_call 29; refine (Hsg.out _).mono ?_; rintro e' w2 ⟨rfl, hb2⟩; replace hR := hR.trans (hb2.mono hR.size); obtain ⟨x0, x1, x2, x3, x4, x5, xl⟩ := Hx.out _ hR))
  have hB := Hb.out.1.trans (hR.mono Hb.out.1.size)
  refine (put_new g 3 t br [name, ⟨#[46]⟩, s] _ (Hb.out.2.below hB) rfl (by decide) (by simpa [catL, trueL, falseL] using Hlen.out)).mono ?_
  rintro e' w4 ⟨rfl, hwt4, hr4⟩
  have e4 : t ++ catL [name, ⟨#[46]⟩, s] = t ++ (name.data.toList ++ [46] ++ s.data.toList) := by simp [catL]
  rw [e4] at hwt4
  have H4 := Lib.hid (And.intro hwt4 ((Wrote.of_below (Nat.le_of_lt Hb.out.2.lt) hB).trans hr4))
  clear hwt4 hr4
  go_wp2
  go_end0
  exact ⟨rfl, H4.out.1, H4.out.2⟩
end Go.Proofs.YthiimingnmbgmaaDoor
