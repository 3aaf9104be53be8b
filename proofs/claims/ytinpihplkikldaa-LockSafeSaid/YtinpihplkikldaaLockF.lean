/- Lock, part F: lock.Union gives the union. -/
import Derived.Test.YtinpihplkikldaaLockD
import Derived.Test.YtinpihplkikldaaLockE
namespace Go.Proofs.Ytinpihplkikldaa
open Go.RowKit Go.Afx

theorem WAt.of_own {w : World} {base n c : Nat} {A : Option Addr} {ws : List Wt} (h : w.ownsRow base 31 2 (.slice A n c) n (flatW ws)) (hn : ws.length = n) : WAt w A n c ws :=
  RowsAt.of_own h wrow_len (by rw [List.length_map, hn])

theorem flatW_last (o : List Wt) (b : ByteArray) (y : Bool) (v : Bool) (m : Nat) (hm : m = o.length + 1) : (flatW (o ++ [(b, y)])).set ((m - 1) * 2 + 1) (.bool v) = flatW (o ++ [(b, v)]) := by
  subst hm
  have hl := flatW_length o
  rw [flatW_append, flatW_append, List.set_append_right _ _ (by omega)]
  have e : (o.length + 1 - 1) * 2 + 1 - (flatW o).length = 1 := by omega
  rw [e]; rfl

theorem one_new {w : World} {g : Nat} (T : TypeId) (a : ByteArray) (x : Bool) (hg : g = w.heap.size) : RowsAt (w.alloc (.cells #[.string a, .bool x] T)) 2 (some ⟨g, 0, none⟩) 1 1 ([(a, x)].map wrow) :=
  RowsAt.lit' _ _ 1 hg rfl wrow_len rfl (by unfold maxLen; omega)

theorem appBelow {B : World} {wr w3 : World} {o1 o2 : Obj} {A : Option Addr} {n c nq sz : Nat} {T : TypeId} {xs : List Value} {A3 : Option Addr} {W : World}
    (hb : Below B.heap.size B wr) (hown : wr.ownsRow B.heap.size T sz (.slice A n c) n xs) (hsz : B.heap.size ≤ wr.heap.size) (hW : W = ((wr.alloc o1).drewN nq).alloc o2)
    (hbut : But (fun k => A.map (·.block) = some k) W w3) (_hf : ∀ a2, A3 = some a2 → A = some a2 ∨ W.heap.size ≤ a2.block) : Below B.heap.size B w3 := by
  subst hW
  refine ((below_drewN (hb.alloc hsz o1) nq).alloc (by simp; omega) o2).trans (hbut.below' (by simp; omega) fun i hi => ?_)
  cases A with
  | none => cases hi
  | some a2 => have h := hown.lt a2.block rfl; simp at hi; omega

theorem but_own {a w w' : World} {A : Option Addr} {base n c : Nat} {T : TypeId} {xs : List Value} {sz : Nat} (hb : Below a.heap.size a w) (hown : w.ownsRow base T sz (.slice A n c) n xs) (hbase : a.heap.size ≤ base) (h : But (fun k => A.map (·.block) = some k) w w') : Below a.heap.size a w' :=
  hb.trans (h.below' hb.size (fun i hi => by
    cases A with
    | none => cases hi
    | some a2 => have h := hown.lt a2.block rfl; simp at hi; omega))

set_option maxHeartbeats 1000000 in
theorem union_any (A : Option Addr) (n c : Nat) (lls : List (List Wt)) (hbig : lls.flatten.length ≤ 20) (w : World) (hl : ListsAt w A n c lls) :
    Calls Try.prog 14 #[.slice A n c] w (OwnsW w (unionW lls.flatten)) := by
  have hcon := concat_any A n c lls (by omega) w hl
  generalize lls.flatten = all at *
  have Hcon := Lib.hid hcon; clear hcon
  go_enter Try.func14, Try.ntmps14
  go_wp2_with (first | (go_at_call 39; refine Hcon.out.mono ?_; rintro e w1 ⟨A1, c1, rfl, hown1, hb1⟩) | (go_at_call 40; refine (sortStable_any _ A1 _ c1 all hbig rfl _ hown1).mono ?_; rintro e w2 ⟨srt, hperm, hsort, rfl, hown2, hbut2⟩))
  have hL : all.length ≤ 1000 := by omega
  have Hperm := Lib.hid hperm; clear hperm
  have Hsort := Lib.hid hsort; clear hsort
  have hb2 : Below w.heap.size w w2 := but_own hb1 hown1 (Nat.le_refl _) hbut2
  have hsrt : Hid (srt.length = all.length) := Lib.hid Hperm.out.length_eq
  have hW2 : WAt w2 A1 all.length c1 srt := WAt.of_own hown2 hsrt.out
  generalize all.length = L at *
  go_loopw [4, 14] (fun v i wr => ∃ (k : Nat) (out : List Wt) (A2 : Option Addr) (c2 : Nat), k ≤ L ∧ i = .int .i64 k ∧ v = .slice A2 out.length c2 ∧ out = dedup (srt.take k) ∧ out.length ≤ k ∧ wr.ownsRow w2.heap.size 31 2 (.slice A2 out.length c2) out.length (flatW out) ∧ Below w2.heap.size w2 wr) (fun _ i _ => L - (intOf i).toNat)
  case atStart => exact ⟨0, [], none, 0, Nat.zero_le _, rfl, rfl, rfl, Nat.le_refl _, World.ownsRow_nil _ _ _ _, Below.refl _ _⟩
  case round =>
    obtain ⟨k, out, A2, c2, hk, rfl, rfl, hout, hlen, hown, hb⟩ := hrel
    have Hout := Lib.hid hout; clear hout
    by_cases hlt : k < L
    · obtain ⟨b, o, a, x, hA1, hbl, hpk, hc0, hc1⟩ := (hW2.below hb).get hlt
      subst hA1
      have Hpk := Lib.hid hpk; clear hpk
      have Hstep : Hid (dedup (srt.take (k + 1)) = ddStep out (a, x)) := Lib.hid (by rw [take_succ_of Hpk.out, dedup_snoc, Hout.out])
      rcases List.eq_nil_or_concat out with rfl | ⟨o', q, hoq⟩
      · go_wp2
        go_quiet (fail)
        have hown3 : (((wr.alloc (.cells #[.string a, .bool x] 31)).drewN nq).alloc (.cells #[.string a, .bool x] 31)).ownsRow w2.heap.size 31 2 (.slice A2 0 c2) 0 [].flatten := (own_drewN (hown.alloc _) nq).alloc _
        have hnew : RowsAt (((wr.alloc (.cells #[.string a, .bool x] 31)).drewN nq).alloc (.cells #[.string a, .bool x] 31)) 2 (some ⟨wr.heap.size + 1, 0, none⟩) 1 1 ([(a, x)].map wrow) := one_new _ a x (by simp)
        have hsz := hb.size
        go_wp2_with (at_builtin; refine wpList_app rfl rfl tyWant rfl hown3 rfl hnew wrow_len wrow_one ?_ ?_ ?_ ?_; (unfold maxLen; omega); omega; (simp; omega); intro A3 c3 w3 hown4 hbut4 hf4)
        go_roundw
        case rel => exact ⟨k + 1, [(a, x)], A3, c3, by omega, by go_num, rfl, by rw [Hstep.out]; rfl, by simp, hown4, appBelow hb hown hsz rfl hbut4 hf4⟩
        case measure => simp [intOf]; omega
      · rw [List.concat_eq_append] at hoq
        obtain ⟨qn, qb⟩ := q
        have Hoq := Lib.hid hoq; clear hoq
        have Hlen : Hid (out.length = o'.length + 1) := Lib.hid (by rw [Hoq.out]; simp)
        have hpos : 0 < out.length := by have := Hlen.out; omega
        obtain ⟨g, cap, hA, hbg, hgl⟩ := hown.form hpos
        simp only [Value.slice.injEq] at hA
        obtain ⟨rfl, _, rfl⟩ := hA
        generalize hm : out.length = m at *
        have Hm := Lib.hid hm; clear hm
        have hq := flatW_at o' [] qn qb (m - 1) (by have := Hlen.out; omega)
        rw [← Hoq.out] at hq
        have hd0 : wr.cell? ⟨g, (m - 1) * 2, none⟩ = some (.string qn) := (hown.cellAt ((m - 1) * 2) (by omega)).trans hq.1
        have hd1 : wr.cell? ⟨g, (m - 1) * 2 + 1, none⟩ = some (.bool qb) := (hown.cellAt ((m - 1) * 2 + 1) (by omega)).trans hq.2
        clear hq
        have hfz := hown.frozenAt
        have hw1 : IntKind.i64.wrap ((m : Int) - 1) = (m : Int) - 1 := IntWalk.i64_in _ (by omega)
        have hw2 : 0 ≤ (m : Int) - 1 := by omega
        have hw3 : ((m : Int) - 1).toNat = m - 1 := by omega
        have ht : decide ((0 : Int) < (m : Int)) = true := by simp; omega
        have hw4 : (m : Int) - 1 < (m : Int) := by omega
        have hw6 : 1 ≤ (m : Int) := by omega
        have hw7 : (m : Int) ≤ (m : Int) := by omega
        have hw8 : 1 ≤ m := by omega
        by_cases hsame : (qn.toList == a.toList) = true
        · have Hres : Hid (dedup (srt.take (k + 1)) = o' ++ [(qn, qb || x)]) := Lib.hid (by rw [Hstep.out, Hoq.out, ddStep_same _ _ _ hsame])
          have Hl2 : Hid (∀ v : Bool, (o' ++ [(qn, v)]).length = m) := Lib.hid (fun v => by have := Hlen.out; simp; omega)
          cases qb
          · go_wp2
            go_quiet (fail)
            go_wp2
            go_roundw
            case rel =>
              have h3 := (own_drewN (hown.alloc (.cells #[.string a, .bool x] 31)) nq).stored ((m - 1) * 2 + 1) (.bool x)
              have h4 := h3.1
              rw [Hoq.out, flatW_last o' qn false x m (by have := Hlen.out; omega)] at h4
              exact ⟨k + 1, o' ++ [(qn, x)], some ⟨g, 0, none⟩, c2, by omega, by go_num, by rw [Hl2.out], by rw [Hres.out]; rfl, by rw [Hl2.out]; omega, by rw [Hl2.out]; exact h4, (below_drewN (hb.alloc hb.size _) nq).setCell hbg _⟩
            case measure => simp [intOf]; omega
          · go_wp2
            go_quiet (fail)
            go_wp2
            go_roundw
            case rel =>
              have h3 := (own_drewN (hown.alloc (.cells #[.string a, .bool x] 31)) nq).stored ((m - 1) * 2 + 1) (.bool true)
              have h4 := h3.1
              rw [Hoq.out, flatW_last o' qn true true m (by have := Hlen.out; omega)] at h4
              exact ⟨k + 1, o' ++ [(qn, true)], some ⟨g, 0, none⟩, c2, by omega, by go_num, by rw [Hl2.out], by rw [Hres.out]; rfl, by rw [Hl2.out]; omega, by rw [Hl2.out]; exact h4, (below_drewN (hb.alloc hb.size _) nq).setCell hbg _⟩
            case measure => simp [intOf]; omega
        · have hsame : (qn.toList == a.toList) = false := by simpa using hsame
          have Hres : Hid (dedup (srt.take (k + 1)) = out ++ [(a, x)]) := Lib.hid (by rw [Hstep.out, Hoq.out, ddStep_new _ _ _ hsame])
          go_wp2
          go_quiet (fail)
          have hown3 : (((wr.alloc (.cells #[.string a, .bool x] 31)).drewN nq).alloc (.cells #[.string a, .bool x] 31)).ownsRow w2.heap.size 31 2 (.slice (some ⟨g, 0, none⟩) m c2) m (out.map wrow).flatten := (own_drewN (hown.alloc _) nq).alloc _
          have hnew : RowsAt (((wr.alloc (.cells #[.string a, .bool x] 31)).drewN nq).alloc (.cells #[.string a, .bool x] 31)) 2 (some ⟨wr.heap.size + 1, 0, none⟩) 1 1 ([(a, x)].map wrow) := one_new _ a x (by simp)
          have hsz := hb.size
          go_wp2_with (at_builtin; refine wpList_app rfl rfl tyWant rfl hown3 rfl hnew wrow_len wrow_one ?_ ?_ ?_ ?_; (unfold maxLen; omega); omega; (simp; omega); intro A3 c3 w3 hown4 hbut4 hf4)
          go_roundw
          case rel =>
            rw [← List.map_append] at hown4
            exact ⟨k + 1, out ++ [(a, x)], A3, c3, by omega, by go_num, by rw [List.length_append, Hm.out]; rfl, Hres.out.symm, by rw [List.length_append, Hm.out]; simp; omega, by rw [List.length_append, Hm.out]; exact hown4, appBelow hb hown hsz rfl hbut4 hf4⟩
          case measure => simp [intOf]; omega
    · go_wp2
      go_ret
      obtain rfl : k = L := by omega
      have hfin : out = unionW all := by
        rw [Hout.out, List.take_of_length_le (by rw [hsrt.out]; omega), dedup_union Hperm.out Hsort.out]
      subst hfin
      exact ⟨A2, c2, rfl, own_base hown hb2.size, hb2.trans (hb.mono hb2.size)⟩
end Go.Proofs.Ytinpihplkikldaa
