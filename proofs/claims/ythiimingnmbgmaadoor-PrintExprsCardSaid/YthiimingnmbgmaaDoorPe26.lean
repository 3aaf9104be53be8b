/- Parts of this proof, one behind the other: RefT8, RefD0, PrtP. -/
import Derived.Test.YthiimingnmbgmaaDoorPe22
import Derived.Test.YthiimingnmbgmaaDoorPe25
import Derived.Deep.DeepCutAuto
import Derived.Deep.CutBlock
import Derived.Outline
import Derived.Test.YthiimingnmbgmaaDoorPe20
import Derived.Test.YthiimingnmbgmaaDoorPe4
import Derived.ProofKit
import Derived.Test.YthiimingnmbgmaaDoorPe6
namespace Go.Proofs.YthiimingnmbgmaaDoor
open Go.RowKit Go.Afx
set_option maxRecDepth 1000000 in
set_option maxHeartbeats 4000000 in
theorem build_any (F : Nat → Prop) (A A' : Option Addr) (n c n' c' : Nat) (xs : List Lf) (ys : List Kn) (w : World) (h1 : LsAt F w 6 (LfAt F w) A n c xs) (h2 : LsAt F w 8 (KnAt F w) A' n' c' ys) (hF : ∀ k, F k → k < w.heap.size) :
    Calls Tryd.prog 6 #[.slice A n c, .slice A' n' c'] w (Forest F w) := by
  have H0 := Lib.hid (EWood.start F w)
  have H1 := Lib.hid h1
  have H2 := Lib.hid h2
  clear h1 h2
  go_enter Tryd.func6, Tryd.ntmps6
  go_upto_block 0 with (fail)
  go_cut [] (fun wr => EDone F w wr)
  case first =>
    refine Code.wp_mono noPanic_then (phE F A n c xs w _ H1.out hF H0.out ?_)
    intro y6 y7 y8 y9 y10 y11 y12 y24 y25 y26 y27 y28 y29 y30 y31 y32 y33 y34 y35 y36 y37 y38 y39 y40 y41 y42 y43 y44 y45 y46 y47 y48 y49 y50 y51 y52 y53 y54 y55 y56 y57 y58 y59 y60 y61 y62 y63 y64 y65 y66 y67 y68 y69 y70 y71 y72 y73 y74 y75 y76 y77 y78 y79 y80 y81 y82 y83 y84 y85 y86 y87 y88 y89 y90 y91 y92 y93 y94 y95 y96 y97 y98 y99 y100 y101 y102 y103 y104 y105 y106 y107 y108 y109 y110 y111 y112 y113 y114 y115 y116 y117 W hr
    have Hr := Lib.hid hr
    clear hr
    go_step
    go_meet
    exact Hr.out
  case rest =>
    obtain ⟨hue, es, A0, c0, A1, c1, A2, c2, hS⟩ := hcut
    have HS := Lib.hid hS
    clear hS H0 H1
    go_upto_block 4 with (fail)
    go_cut [] (fun wr => SDone F w wr)
    case first =>
      refine Code.wp_mono noPanic_then (phS F A' n' c' ys w _ hue es A0 c0 A1 c1 A2 c2 H2.out hF HS.out ?_)
      intro y13 y14 y15 y16 y17 y18 y19 y20 y21 y22 y118 y119 y120 y121 y122 y123 y124 y125 y126 y127 y128 y129 y130 y131 y132 y133 y134 y135 y136 y137 y138 y139 y140 y141 y142 y143 y144 y145 y146 y147 y148 y149 y150 y151 y152 y153 y154 y155 y156 y157 y158 y159 y160 y161 y162 y163 y164 y165 y166 y167 y168 y169 y170 y171 y172 y173 y174 y175 y176 y177 y178 y179 y180 y181 y182 y183 y184 y185 y186 y187 y188 y189 y190 y191 y192 y193 y194 y195 y196 y197 y198 y199 y200 y201 y202 y203 y204 y205 y206 y207 y208 y209 y210 y211 y212 y213 y214 y215 y216 y217 y218 y219 y220 y221 y222 y223 y224 y225 y226 y227 y228 y229 y230 y231 y232 y233 y234 y235 y236 y237 y238 y239 y240 y241 y242 y243 y244 y245 y246 y247 y248 y249 y250 y251 y252 y253 y254 y255 y256 y257 y258 y259 y260 y261 y262 y263 y264 y265 y266 y267 y268 y269 y270 y271 y272 y273 y274 y275 y276 y277 y278 y279 y280 y281 y282 y283 y284 y285 y286 y287 y288 y289 y290 W hr
      have Hr := Lib.hid hr
      clear hr
      go_step
      go_meet
      exact Hr.out
    case rest =>
      clear HS H2
      obtain ⟨hue, es, ss, A0, c0, A1, c1, A2, c2, A3, c3, A4, c4, A5, c5, hW⟩ := hcut
      generalize wc = w1 at *
      have HW := Lib.hid hW
      clear hW
      obtain ⟨q0, q1, q2, q3, q4, q5, ql⟩ := treeBox HW.out.box
      have hend := HW.out.end_ (but_six w1 w.heap.size (.slice A0 es.length c0) (.slice A1 es.length c1) (.slice A2 es.length c2) (.slice A3 ss.length c3) (.slice A4 ss.length c4) (.slice A5 ss.length c5))
      have Hend := Lib.hid hend
      obtain ⟨r0, r1, r2, r3, r4, r5, rl⟩ := treeBox HW.out.res
      have rf := HW.out.res.frozen
      clear hend
      go_wp2
      refine bodyPost_ret (v := .agg #[.slice A0 es.length c0, .slice A1 es.length c1, .slice A2 es.length c2, .slice A3 ss.length c3, .slice A4 ss.length c4, .slice A5 ss.length c5]) (by simp [results, Tryd.results6, go_sem, r0, r1, r2, r3, r4, r5]) rfl ⟨_, es, ss, rfl, Hend.out.1, Hend.out.2⟩
end Go.Proofs.YthiimingnmbgmaaDoor

namespace Go.Proofs.YthiimingnmbgmaaDoor
open Go.RowKit Go.Afx Go.ChangeShapes Go.WideShapes Go.Deep

section
variable {H : Type} {enc : TypeId × Value → H} {w : World} {base : Nat} {spare : Nat → Bool} {held : Bool}

theorem fields_of {P : Program} {t : TypeId} {fs : Array Field} {fuel : Nat} {cs : List Value} {x : DataW H × List MemPlace} (ht : P.underlying t = some (.struct fs)) (h : DataW.trod enc P w base spare held fuel t cs = some x) :
    ∀ (i : Nat) (f : Field), fs[i]? = some f → ∃ m y, DataW.trod enc P w base spare held m f.type ((cs.drop f.offset).take (P.cellsOf f.type)) = some y := by
  obtain ⟨xs, n, _, _, _, hl, hf⟩ := DataW.trod_struct ht h
  intro i f hi
  have hlt : i < fs.size := (Array.getElem?_eq_some_iff.1 hi).1
  exact ⟨n, xs[i]'(by omega), by rw [hf i f hi]; exact List.getElem?_eq_getElem _⟩
theorem slice_of {P : Program} {t e : TypeId} {fuel : Nat} {v : Value} {x : DataW H × List MemPlace} (ht : P.underlying t = some (.slice e)) (h : DataW.trod enc P w base spare held fuel t [v] = some x) : ∃ A n c, v = .slice A n c := by
  rcases open_slice ht h with ⟨hcs, _⟩ | ⟨a, len, cap, m, q, D, Pl, hcs, _⟩
  · simp only [List.cons.injEq, and_true] at hcs; exact ⟨_, _, _, hcs⟩
  · simp only [List.cons.injEq, and_true] at hcs; exact ⟨_, _, _, hcs⟩
theorem six_of {r : List Value} (h : r.length = 6) : ∃ a b c d e f, r = [a, b, c, d, e, f] := by
  match r, h with
  | [a, b, c, d, e, f], _ => exact ⟨a, b, c, d, e, f, rfl⟩
theorem str_of {m : Nat} {v : Value} {y : DataW H × List MemPlace} (h : DataW.trod enc Tryd.prog w base spare held m 9 [v] = some y) : ∃ s, v = .string s ∧ okS s := by
  obtain ⟨s, hs, _, hk⟩ := DataW.trod_string Tryd.underlying9 h
  simp only [List.cons.injEq, and_true] at hs
  exact ⟨s, hs, hk⟩
theorem int_of {m : Nat} {v : Value} {y : DataW H × List MemPlace} (h : DataW.trod enc Tryd.prog w base spare held m 3 [v] = some y) : ∃ k, v = .int .i64 k ∧ okI k := by
  obtain ⟨k, hs, _, hk⟩ := DataW.trod_int Tryd.underlying3 h
  simp only [List.cons.injEq, and_true] at hs
  exact ⟨k, hs, okI_of hk⟩
theorem int64_of {m : Nat} {v : Value} {y : DataW H × List MemPlace} (h : DataW.trod enc Tryd.prog w base spare held m 2 [v] = some y) : ∃ k, v = .int .i64 k ∧ okI k := by
  obtain ⟨k, hs, _, hk⟩ := DataW.trod_int Tryd.underlying2 h
  simp only [List.cons.injEq, and_true] at hs
  exact ⟨k, hs, okI_of hk⟩
theorem ints_of {m : Nat} {v : Value} {y : DataW H × List MemPlace} (h : DataW.trod enc Tryd.prog w base spare held m 26 [v] = some y) : ∃ A n c xs, v = .slice A n c ∧ LsAt (Old w) w 1 IRow A n c xs := by
  obtain ⟨A, n, c, rfl⟩ := slice_of Tryd.underlying26 h
  obtain ⟨xs, hx⟩ := ints_of_trod Tryd.underlying26 Tryd.underlying3 (by kernel_rfl) h
  exact ⟨A, n, c, xs, rfl, hx⟩
theorem cS : Tryd.prog.cellsOf 9 = 1 := by kernel_rfl
theorem cI : Tryd.prog.cellsOf 3 = 1 := by kernel_rfl
theorem cJ : Tryd.prog.cellsOf 2 = 1 := by kernel_rfl
theorem cIs : Tryd.prog.cellsOf 26 = 1 := by kernel_rfl
theorem lf_of {m : Nat} {r : List Value} {y : DataW H × List MemPlace} (hl : r.length = 6) (h : DataW.trod enc Tryd.prog w base spare held m 42 r = some y) : ∃ x : Lf, LfAt (Old w) w r x := by
  obtain ⟨a, b, c, d, e, f, rfl⟩ := six_of hl
  have hF := fields_of Tryd.underlying42 h
  obtain ⟨m0, y0, h0⟩ := hF 0 _ rfl
  obtain ⟨m1, y1, h1⟩ := hF 1 _ rfl
  obtain ⟨m2, y2, h2⟩ := hF 2 _ rfl
  obtain ⟨m3, y3, h3⟩ := hF 3 _ rfl
  obtain ⟨m4, y4, h4⟩ := hF 4 _ rfl
  obtain ⟨m5, y5, h5⟩ := hF 5 _ rfl
  replace h0 : DataW.trod enc Tryd.prog w base spare held m0 3 (([a, b, c, d, e, f] : List Value).drop 0 |>.take (Tryd.prog.cellsOf 3)) = some y0 := h0
  rw [cI] at h0
  replace h1 : DataW.trod enc Tryd.prog w base spare held m1 2 (([a, b, c, d, e, f] : List Value).drop 1 |>.take (Tryd.prog.cellsOf 2)) = some y1 := h1
  rw [cJ] at h1
  replace h2 : DataW.trod enc Tryd.prog w base spare held m2 9 (([a, b, c, d, e, f] : List Value).drop 2 |>.take (Tryd.prog.cellsOf 9)) = some y2 := h2
  rw [cS] at h2
  replace h3 : DataW.trod enc Tryd.prog w base spare held m3 9 (([a, b, c, d, e, f] : List Value).drop 3 |>.take (Tryd.prog.cellsOf 9)) = some y3 := h3
  rw [cS] at h3
  replace h4 : DataW.trod enc Tryd.prog w base spare held m4 9 (([a, b, c, d, e, f] : List Value).drop 4 |>.take (Tryd.prog.cellsOf 9)) = some y4 := h4
  rw [cS] at h4
  replace h5 : DataW.trod enc Tryd.prog w base spare held m5 26 (([a, b, c, d, e, f] : List Value).drop 5 |>.take (Tryd.prog.cellsOf 26)) = some y5 := h5
  rw [cIs] at h5
  obtain ⟨i0, rfl, k0⟩ := int_of h0
  obtain ⟨i1, rfl, k1⟩ := int64_of h1
  obtain ⟨s2, rfl, k2⟩ := str_of h2
  obtain ⟨s3, rfl, k3⟩ := str_of h3
  obtain ⟨s4, rfl, k4⟩ := str_of h4
  obtain ⟨A5, n5, c5, l5, rfl, k5⟩ := ints_of h5
  exact ⟨⟨i0, i1, s2, s3, s4, l5⟩, k0, k1, k2, k3, k4, A5, n5, c5, rfl, k5⟩
theorem leaves_of {m : Nat} {v : Value} {y : DataW H × List MemPlace} (h : DataW.trod enc Tryd.prog w base spare held m 22 [v] = some y) : ∃ A n c xs, v = .slice A n c ∧ LsAt (Old w) w 6 (LfAt (Old w) w) A n c xs := by
  obtain ⟨A, n, c, rfl⟩ := slice_of Tryd.underlying22 h
  obtain ⟨xs, hx⟩ := ls_of_trod Tryd.underlying22 (by kernel_rfl) (by omega) (LfAt (Old w) w) (fun r m y hr hy => lf_of hr hy) h
  exact ⟨A, n, c, xs, rfl, hx⟩
end
end Go.Proofs.YthiimingnmbgmaaDoor

namespace Go.Afx
open Go.RowKit

/-- digits, none of nought -/
def digs (n : Nat) : List UInt8 := if _h : n = 0 then [] else digs (n / 10) ++ [UInt8.ofNat (48 + n % 10)]
termination_by n
decreasing_by omega
theorem digs_zero : digs 0 = [] := by rw [digs]; rfl
theorem digs_pos {n : Nat} (h : 0 < n) : digs n = digs (n / 10) ++ [UInt8.ofNat (48 + n % 10)] := by
  rw [digs, dif_neg (by omega)]
theorem digs_len (k : Nat) : ∀ n, n < 10 ^ k → (digs n).length ≤ k := by
  induction k with
  | zero => intro n h; obtain rfl : n = 0 := by simpa using h
            rw [digs_zero]; exact Nat.le_refl _
  | succ k ih =>
    intro n h
    rcases Nat.eq_zero_or_pos n with rfl | hp
    · rw [digs_zero]; exact Nat.zero_le _
    · rw [digs_pos hp, List.length_append]
      have := ih (n / 10) (by rw [Nat.pow_succ] at h; omega)
      simp only [List.length_cons, List.length_nil]
      omega
def decS (n : Int) : List UInt8 := if n = 0 then [48] else digs n.toNat
theorem decS_len {n : Int} (h : okI n) : (decS n).length ≤ 19 := by
  unfold decS okI at *
  split
  · decide
  · exact digs_len 19 _ (by have : (10 : Nat) ^ 19 = 10000000000000000000 := by decide
                            omega)

def dbl (l : List UInt8) : List UInt8 := l.flatMap fun c => if c = 39 then [39, 39] else [c]
theorem dbl_len (l : List UInt8) : (dbl l).length ≤ 2 * l.length := by
  induction l with
  | nil => decide
  | cons a r ih =>
    unfold dbl at *
    rw [List.flatMap_cons, List.length_append, List.length_cons]
    split <;> simp only [List.length_cons, List.length_nil] <;> omega
def quoteS (s : ByteArray) : List UInt8 := [39] ++ dbl s.data.toList ++ [39]

/-- an op's sign, how tightly it binds -/
def sgnT : List (List UInt8) := [[43], [45], [42], [47], [37], [61], [33, 61], [60], [60, 61], [62, 61], [62], [97, 110, 100], [111, 114], [110, 111, 116, 32], [45], [99, 111, 117, 110, 116], [115, 117, 109], [109, 105, 110], [109, 97, 120]]
def lvlT : List Int := [5, 5, 6, 6, 6, 4, 4, 4, 4, 4, 4, 2, 1, 3, 7, 8, 8, 8, 8]
def sgnL (op : Int) : List UInt8 := if op < 6 then [] else sgnT.getD (op - 6).toNat []
def lvlZ (op : Int) : Int := if op < 6 then 8 else lvlT.getD (op - 6).toNat 8
theorem op_cases {op : Int} (h1 : 1 ≤ op) (h2 : op ≤ 24) : op = 1 ∨ op = 2 ∨ op = 3 ∨ op = 4 ∨ op = 5 ∨ op = 6 ∨ op = 7 ∨ op = 8 ∨ op = 9 ∨ op = 10 ∨ op = 11 ∨ op = 12 ∨ op = 13 ∨ op = 14 ∨ op = 15 ∨ op = 16 ∨ op = 17 ∨ op = 18 ∨ op = 19 ∨ op = 20 ∨ op = 21 ∨ op = 22 ∨ op = 23 ∨ op = 24 := by omega
theorem sgnL_len {op : Int} (h1 : 1 ≤ op) (h2 : op ≤ 24) : (sgnL op).length ≤ 5 := by
  rcases op_cases h1 h2 with rfl | rfl | rfl | rfl | rfl | rfl | rfl | rfl | rfl | rfl | rfl | rfl | rfl | rfl | rfl | rfl | rfl | rfl | rfl | rfl | rfl | rfl | rfl | rfl <;> decide
theorem lvlZ_bd {op : Int} (h1 : 1 ≤ op) (h2 : op ≤ 24) : 1 ≤ lvlZ op ∧ lvlZ op ≤ 8 := by
  rcases op_cases h1 h2 with rfl | rfl | rfl | rfl | rfl | rfl | rfl | rfl | rfl | rfl | rfl | rfl | rfl | rfl | rfl | rfl | rfl | rfl | rfl | rfl | rfl | rfl | rfl | rfl <;> decide

/-- an expression's text where one that binds so tightly must stand -/
def opnd (least op : Int) (t : List UInt8) : List UInt8 := if lvlZ op < least then [40] ++ t ++ [41] else t
/-- what must be true of a row -/
def whereT (op n : Int) (t : List UInt8) : List UInt8 := if op = 3 ∧ n = 1 then [] else [32, 119, 104, 101, 114, 101, 32] ++ t
def rowsT (name src : ByteArray) (op n : Int) (t : List UInt8) : List UInt8 := name.data.toList ++ [32, 105, 110, 32] ++ src.data.toList ++ whereT op n t
def trueL : List UInt8 := [116, 114, 117, 101]
def falseL : List UInt8 := [102, 97, 108, 115, 101]
def txtE : Nat → Ex → List UInt8
  | 0, _ => []
  | d + 1, e =>
    if e.op = 1 then decS e.n
    else if e.op = 2 then quoteS e.s
    else if e.op = 3 then (if e.n = 1 then trueL else falseL)
    else if e.op = 4 then e.name.data.toList
    else if e.op = 5 then e.name.data.toList ++ [46] ++ e.s.data.toList
    else match e.args with
      | [] => []
      | a :: r =>
        if e.op = 19 ∨ e.op = 20 then sgnL e.op ++ opnd (lvlZ e.op) a.op (txtE d a)
        else if 21 ≤ e.op then sgnL e.op ++ [40] ++ rowsT e.name e.src a.op a.n (txtE d a) ++ (if e.op = 21 then [] else [58, 32] ++ (match r with | [] => [] | b :: _ => txtE d b)) ++ [41]
        else opnd (lvlZ e.op + if lvlZ e.op = 4 then 1 else 0) a.op (txtE d a) ++ ([32] ++ sgnL e.op ++ [32]) ++ (match r with | [] => [] | b :: _ => opnd (lvlZ e.op + 1) b.op (txtE d b))
/-- has a text in an expression a newline -/
def nlE : Nat → Ex → Bool
  | 0, _ => false
  | d + 1, e => (decide (e.op = 2) && e.s.data.toList.any (· == 10)) || e.args.any (nlE d)

theorem built_parts {d : Nat} {e : Ex} (h : builtE (d + 1) e = true) : arityB e.op = e.args.length ∧ fieldsR e.op e.n e.s e.name e.src = true ∧ ∀ x ∈ e.args, builtE d x = true := by
  rw [builtE] at h
  unfold headE fieldsE at h
  simp only [Bool.and_eq_true, decide_eq_true_eq, List.all_eq_true] at h
  exact ⟨h.1.1, h.1.2, h.2⟩
theorem arity_op {op : Int} {n : Nat} (h : arityB op = (n : Int)) : 1 ≤ op ∧ op ≤ 24 := by
  unfold arityB at h
  split at h
  · omega
  · split at h
    · omega
    · split at h
      · omega
      · split at h
        · omega
        · split at h <;> omega
theorem built_op {d : Nat} {e : Ex} (h : builtE d e = true) : 1 ≤ e.op ∧ e.op ≤ 24 := by
  cases d with
  | zero => cases h
  | succ d => exact arity_op (built_parts h).1
theorem named_len {s : ByteArray} (h : freeB s = true) : s.data.toList.length ≤ 16 := by
  unfold freeB namedB at h
  revert h
  generalize s.data.toList = l
  cases l with
  | nil => intro _; decide
  | cons a r =>
    intro h
    simp only [Bool.and_eq_true, decide_eq_true_eq] at h
    simp only [List.length_cons]
    omega
theorem opnd_len (least op : Int) (t : List UInt8) : (opnd least op t).length ≤ t.length + 2 := by
  unfold opnd
  split
  · simp only [List.length_append, List.length_cons, List.length_nil]; omega
  · omega
theorem whereT_len (op n : Int) (t : List UInt8) : (whereT op n t).length ≤ t.length + 7 := by
  unfold whereT
  split
  · simp
  · simp only [List.length_append, List.length_cons, List.length_nil]; omega
end Go.Afx
