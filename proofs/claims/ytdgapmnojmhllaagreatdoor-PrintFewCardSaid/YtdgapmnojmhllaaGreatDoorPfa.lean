/- 'affluxlaw14.PrintFew' returns true for every list of leaves that is told as data and every number, and the list reads afterwards as it read before: the tied card of the statement. No condition. -/
import Derived.Test.YtdgapmnojmhllaaGreatDoorRows
import Derived.Test.YtdgapmnojmhllaaGreatDoorCards
import Derived.Test.YtdgapmnojmhllaaGreatDoorTie
import Derived.Test.YtdgapmnojmhllaaGreatDoorPf50
import Derived.ProofKit
import Derived.OpenShut
import Derived.ChangeOld
import Derived.ChangeMaps5
import Derived.LaidMore
import Derived.Lay
import Derived.SevenTiedAt
import Derived.Stop.Joined
import Derived.Shelf.Vars
import Derived.Test.YtdgapmnojmhllaaGreatDoorPf9
import Derived.Test.YtdgapmnojmhllaaGreatDoorPf2
section
set_option maxRecDepth 1000000
set_option maxHeartbeats 40000000
namespace Go.Proofs.YtdgapmnojmhllaaGreatDoor
open Go.RowKit Go.Afx Go.ChangeShapes Go.WideShapes Go.Deep
section
variable {H:Type} {enc:TypeId×Value→H} {w:World} {base:Nat} {spare:Nat→Bool} {held:Bool}
theorem fields_of {P:Program} {t:TypeId} {fs:Array Field} {fuel:Nat} {cs:List Value} {x:DataW H×List MemPlace} (ht:P.underlying t=some (.struct fs)) (h:DataW.trod enc P w base spare held fuel t cs=some x) :
  ∀ (i:Nat) (f:Field),fs[i]?=some f→∃ m y,DataW.trod enc P w base spare held m f.type ((cs.drop f.offset).take (P.cellsOf f.type))=some y:=by
 obtain⟨xs,n,_,_,_,hl,hf⟩:=DataW.trod_struct ht h
 intro i f hi
 have hlt:i<fs.size:=(Array.getElem?_eq_some_iff.1 hi).1
 exact⟨n,xs[i]'(by omega),by rw[hf i f hi];exact List.getElem?_eq_getElem _⟩
theorem slice_of {P:Program} {t e:TypeId} {fuel:Nat} {v:Value} {x:DataW H×List MemPlace} (ht:P.underlying t=some (.slice e)) (h:DataW.trod enc P w base spare held fuel t [v]=some x):∃ A n c,v=.slice A n c:=by
 rcases open_slice ht h with ⟨hcs,_⟩|⟨a,len,cap,m,q,D,Pl,hcs,_⟩
 ·simp only[List.cons.injEq,and_true] at hcs;exact⟨_,_,_,hcs⟩
 ·simp only[List.cons.injEq,and_true] at hcs;exact⟨_,_,_,hcs⟩
theorem six_of {r:List Value} (h:r.length=6):∃ a b c d e f,r=[a,b,c,d,e,f]:=by
 match r,h with
 | [a,b,c,d,e,f],_=>exact⟨a,b,c,d,e,f,rfl⟩
theorem str_of {m:Nat} {v:Value} {y:DataW H×List MemPlace} (h:DataW.trod enc Tryz.prog w base spare held m 9 [v]=some y):∃ s,v=.string s∧okS s:=by
 obtain⟨s,hs,_,hk⟩:=DataW.trod_string Tryz.underlying9 h
 simp only[List.cons.injEq,and_true] at hs
 exact⟨s,hs,hk⟩
theorem int_of {m:Nat} {v:Value} {y:DataW H×List MemPlace} (h:DataW.trod enc Tryz.prog w base spare held m 3 [v]=some y):∃ k,v=.int .i64 k∧okI k:=by
 obtain⟨k,hs,_,hk⟩:=DataW.trod_int Tryz.underlying3 h
 simp only[List.cons.injEq,and_true] at hs
 exact⟨k,hs,okI_of hk⟩
theorem int64_of {m:Nat} {v:Value} {y:DataW H×List MemPlace} (h:DataW.trod enc Tryz.prog w base spare held m 2 [v]=some y):∃ k,v=.int .i64 k∧okI k:=by
 obtain⟨k,hs,_,hk⟩:=DataW.trod_int Tryz.underlying2 h
 simp only[List.cons.injEq,and_true] at hs
 exact⟨k,hs,okI_of hk⟩
theorem ints_of {m:Nat} {v:Value} {y:DataW H×List MemPlace} (h:DataW.trod enc Tryz.prog w base spare held m 26 [v]=some y):∃ A n c xs,v=.slice A n c∧LsAt (Old w) w 1 IRow A n c xs:=by
 obtain⟨A,n,c,rfl⟩:=slice_of Tryz.underlying26 h
 obtain⟨xs,hx⟩:=ints_of_trod Tryz.underlying26 Tryz.underlying3 (by kernel_rfl) h
 exact⟨A,n,c,xs,rfl,hx⟩
theorem cS:Tryz.prog.cellsOf 9=1:=by kernel_rfl
theorem cI:Tryz.prog.cellsOf 3=1:=by kernel_rfl
theorem cJ:Tryz.prog.cellsOf 2=1:=by kernel_rfl
theorem cIs:Tryz.prog.cellsOf 26=1:=by kernel_rfl
theorem lf_of {m:Nat} {r:List Value} {y:DataW H×List MemPlace} (hl:r.length=6) (h:DataW.trod enc Tryz.prog w base spare held m 59 r=some y):∃ x:Lf,LfAt (Old w) w r x:=by
 obtain⟨a,b,c,d,e,f,rfl⟩:=six_of hl
 have hF:=fields_of Tryz.underlying59 h
 obtain⟨m0,y0,h0⟩:=hF 0 _ rfl
 obtain⟨m1,y1,h1⟩:=hF 1 _ rfl
 obtain⟨m2,y2,h2⟩:=hF 2 _ rfl
 obtain⟨m3,y3,h3⟩:=hF 3 _ rfl
 obtain⟨m4,y4,h4⟩:=hF 4 _ rfl
 obtain⟨m5,y5,h5⟩:=hF 5 _ rfl
 replace h0:DataW.trod enc Tryz.prog w base spare held m0 3 (([a,b,c,d,e,f]:List Value).drop 0 |>.take (Tryz.prog.cellsOf 3))=some y0:=h0
 rw[cI] at h0
 replace h1:DataW.trod enc Tryz.prog w base spare held m1 2 (([a,b,c,d,e,f]:List Value).drop 1 |>.take (Tryz.prog.cellsOf 2))=some y1:=h1
 rw[cJ] at h1
 replace h2:DataW.trod enc Tryz.prog w base spare held m2 9 (([a,b,c,d,e,f]:List Value).drop 2 |>.take (Tryz.prog.cellsOf 9))=some y2:=h2
 rw[cS] at h2
 replace h3:DataW.trod enc Tryz.prog w base spare held m3 9 (([a,b,c,d,e,f]:List Value).drop 3 |>.take (Tryz.prog.cellsOf 9))=some y3:=h3
 rw[cS] at h3
 replace h4:DataW.trod enc Tryz.prog w base spare held m4 9 (([a,b,c,d,e,f]:List Value).drop 4 |>.take (Tryz.prog.cellsOf 9))=some y4:=h4
 rw[cS] at h4
 replace h5:DataW.trod enc Tryz.prog w base spare held m5 26 (([a,b,c,d,e,f]:List Value).drop 5 |>.take (Tryz.prog.cellsOf 26))=some y5:=h5
 rw[cIs] at h5
 obtain⟨i0,rfl,k0⟩:=int_of h0
 obtain⟨i1,rfl,k1⟩:=int64_of h1
 obtain⟨s2,rfl,k2⟩:=str_of h2
 obtain⟨s3,rfl,k3⟩:=str_of h3
 obtain⟨s4,rfl,k4⟩:=str_of h4
 obtain⟨A5,n5,c5,l5,rfl,k5⟩:=ints_of h5
 exact⟨⟨i0,i1,s2,s3,s4,l5⟩,k0,k1,k2,k3,k4,A5,n5,c5,rfl,k5⟩
theorem leaves_of {m:Nat} {v:Value} {y:DataW H×List MemPlace} (h:DataW.trod enc Tryz.prog w base spare held m 22 [v]=some y):∃ A n c xs,v=.slice A n c∧LsAt (Old w) w 6 (LfAt (Old w) w) A n c xs:=by
 obtain⟨A,n,c,rfl⟩:=slice_of Tryz.underlying22 h
 obtain⟨xs,hx⟩:=ls_of_trod Tryz.underlying22 (by kernel_rfl) (by omega) (LfAt (Old w) w) (fun r m y hr hy=>lf_of hr hy) h
 exact⟨A,n,c,xs,rfl,hx⟩
end
end Go.Proofs.YtdgapmnojmhllaaGreatDoor
end
namespace Go.Proofs.YtdgapmnojmhllaaGreatDoor
open Go.ChangeShapes Go.WideShapes Go.ChangeAt Go.RowKit Go.Afx

theorem own : ownKnob Tryz.prog.godebug = none := by kernel_rfl
theorem laidOut : laidOutB Tryz.prog = true := by kernel_rfl
/-- the library's variable holds some number -/
theorem max_of {W : World} (h : W.ShapedOpen Tryz.prog) : HasMax W :=
  cell_of_shapedOpen_int (g := 0) (t := 3) (zero := #[.int .i64 0]) (k := .i64) h (of_decide_eq_true (by kernel_rfl)) (by kernel_rfl) rfl (by kernel_rfl) (by kernel_rfl) Tryz.underlying3

section
variable {H : Type} {enc : TypeId × Value → H}
/-- a call proved for every world that has the program's shape and meets X -/
theorem lifted_of {a : Assume} {C : Checked} {os : Os} {f : FuncId} {fn : Func} {s : ChangeSpec} {conds : List PathCond} {apart fresh handsOn again : Bool} {X : World → Array Value → Prop}
    (hX : ∀ (w w' : World) (args : Array Value), w.heap = w'.heap → X w args → X w' args)
    (own : ownKnob C.prog.godebug = none) (started : os.Started) (noInit : C.prog.inits.idxOf? f = none) (hfn : C.prog.funcs[f]? = some fn)
    (witness : ∃ (w : World) (tape : Tape) (i : Input), w.os = os ∧ (w.forCall tape i).Shaped C.prog ∧ i.vars = [] ∧ Input.okWide C.prog (w.forCall tape i) .any w.heap.size f i ∧
      ((s.pre enc C.prog fn conds apart (w.forCall tape i).memory i.args ∧ X (w.forCall tape i).memory i.args) ∧ sizedMet enc C.prog fn (OpenSpec.ofChange s) apart (w.forCall tape i).memory i.args) ∧ a.holds C.prog (lone (Frame.enter C.prog f i.args .normal) [] (w.forCall tape i)))
    (contract : ∀ (W : World) (base : Nat) (args : Array Value) (ds gs : List (DataW H)) (before : List MemPlace),
      (∀ (j : Nat) t v, fn.params[j]? = some t → args[j]? = some v → Value.okWide C.prog W .any base t v) →
      DataW.Whole enc C.prog fn.params.toList s.vars apart W args.toList ds gs before → W.ShapedOpen C.prog → X W args →
      Calls C.prog f args W fun e W' => ∃ v, e = .returned v ∧ s.post enc C.prog fn apart fresh handsOn again W args v W') :
    ReturnsInHanded a C os f .any (fun w args => (s.pre enc C.prog fn conds apart w args ∧ X w args) ∧ sizedMet enc C.prog fn (OpenSpec.ofChange s) apart w args) (s.post enc C.prog fn apart fresh handsOn again) := by
  refine returnsInHanded_of_calls own started noInit witness ?_
  intro w tape i _ hsh _ hok hpre _
  obtain ⟨_, _, _, fn', hfn', _, _, _, _, hval⟩ := hok
  obtain rfl : fn' = fn := Option.some.inj (hfn'.symm.trans hfn)
  obtain ⟨⟨⟨ds, gs, before, hw, _⟩, hx⟩, _⟩ := hpre
  refine (contract (w.forCall tape i) w.heap.size i.args ds gs before hval (DataW.Whole.of_heap (w' := w.forCall tape i) (by rfl) hw) hsh (hX _ _ _ (by rfl) hx)).mono fun e W' ⟨v, he, hp⟩ => ?_
  subst he
  exact ChangeSpec.post_blind hp
end

set_option maxRecDepth 100000 in
theorem it_lifted (os : Os) (started : os.Started) (H : Type) (enc : TypeId × Value → H) :
    ReturnsInHanded {} Tryz.checked os 3 .any (fun w args => (Rows.printFewSpec.pre enc Tryz.prog Tryz.f3 Rows.printFewRow.domain false w args ∧ laidMetH Tryz.prog Rows.printFewRow.laid w) ∧ sizedMet enc Tryz.prog Tryz.f3 (OpenSpec.ofChange Rows.printFewSpec) false w args)
      (Rows.printFewSpec.post enc Tryz.prog Tryz.f3 false true false false) := by
  refine lifted_of (C := Tryz.checked) (X := fun w _ => laidMetH Tryz.prog Rows.printFewRow.laid w) (fun _ _ _ hh h => h.of_heap hh) own started (by kernel_rfl) Tryz.func3
    (ChangeSpec.witness_shaped (enc := enc) (C := Tryz.checked) (os := os) (X := fun w _ => laidMetH Tryz.prog Rows.printFewRow.laid w) false (World.laidAll Tryz.prog os Rows.printFewRow.laid) #[.slice none 0 0, .int .i64 0] 8 (World.laidAll_os _ _ _)
      (World.shaped_of_ZipB (by kernel_rfl) (by kernel_rfl)) (by kernel_rfl) (by kernel_rfl) (by kernel_rfl)
      (by rw [MakeChecks.laidMetH_plain _ _ _ (by kernel_rfl)]; exact laidMet_laidAll _ (by kernel_rfl) (by kernel_rfl))) ?_
  intro W base args ds gs before hval0 hW hsh _
  have hval : ∀ (j : Nat) t v, Tryz.f3.params[j]? = some t → args[j]? = some v → Value.okWide Tryz.prog W .any base t v := hval0
  have hm := max_of hsh
  have hW' := hW
  obtain ⟨p, q, hA0, hV, rfl, hfz, hnd⟩ := hW
  have hA : DataW.TrodAll enc Tryz.prog W 0 (fun _ => true) true Tryz.f3.params.toList args.toList ds p := hA0
  rw [Tryz.params3] at hA hval
  obtain ⟨v0, vs0, d0, ds0, p0, q0, hargs, rfl, rfl, h0, r0⟩ := trodAll_cons hA
  obtain ⟨v1, vs1, d1, ds1, p1, q1, rfl, rfl, rfl, h1', r1⟩ := trodAll_cons r0
  obtain ⟨rfl, rfl, rfl⟩ := trodAll_nil r1
  obtain rfl : args = #[v0, v1] := by cases args; simp_all
  obtain ⟨rfl, rfl⟩ := trodVars_none hV
  have k0 := h0
  have k1 := h1'
  have lt1 : ∀ x ∈ p1, x.block < W.heap.size := by obtain ⟨m, hm⟩ := k1; exact DataW.trod_lt m _ _ _ hm
  have lt0 : ∀ x ∈ p0, x.block < W.heap.size := by obtain ⟨m, hm⟩ := k0; exact DataW.trod_lt m _ _ _ hm
  obtain ⟨a0, len, cap, rfl⟩ := okWide_slice Tryz.underlying22 (hval 0 22 v0 rfl rfl)
  obtain ⟨xs, h1⟩ : ∃ xs, LsAt (Old W) W 6 (LfAt (Old W) W) a0 len cap xs := by
    obtain ⟨fuel, hf⟩ := h0
    obtain ⟨A, n, c, xs, e, h⟩ := leaves_of (v := .slice a0 len cap) hf
    injection e with e1 e2 e3
    subst e1 e2 e3
    exact ⟨xs, h⟩
  obtain ⟨k, rfl, _⟩ := open_int Tryz.underlying3 (hval 1 3 v1 rfl rfl) h1'
  clear hA0 hval0
  refine (few_walk (Old W) a0 len cap xs k W h1 (fun _ h => h) hm).mono fun e W' ⟨he, bel⟩ => ?_
  subst he
  exact ⟨_, rfl, _, _, _, [], _, [], hW', trodAll_mk1 (shut_bool Tryz.underlying4 _), (trodAll_cons_mk (Below.trod laidOut (by kernel_rfl) (of_decide_eq_true (by kernel_rfl)) k0 bel lt0) (trodAll_cons_mk (Below.trod laidOut (by kernel_rfl) (of_decide_eq_true (by kernel_rfl)) k1 bel lt1) trodAll_mk0)), rfl, bel.frame _, fun h => by cases h⟩

theorem row_holds : Rows.PrintFewSaid :=
  OpenClaim.holds_of_wide 3 Tryz.f3 rfl rfl rfl rfl rfl rfl rfl ⟨rfl, rfl, rfl, rfl, rfl⟩ rfl rfl rfl rfl rfl (by kernel_rfl) Tryz.func3 (by kernel_rfl)
    (of_decide_eq_true (by kernel_rfl)) (by unfold Func.isWrapper; first | (rw [if_pos (by decide +kernel)]; kernel_rfl) | (rw [if_neg (by decide +kernel)]; exact ⟨rfl, rfl⟩))
    (fun os started H enc _ => it_lifted os started H enc)
/-- THE STATEMENT: the tied card -/
theorem printFew_holds : Rows.PrintFewCardSaid :=
  Claim7.holds_tied_plain_at .later [] [.data, .pinned] true _ false
    row_holds (fun _ h => by cases h) (by kernel_rfl) (fun _ h => by cases h) printFew_row_tie rfl ⟨rfl, rfl⟩ (by kernel_rfl) rfl
    (fun f fn hf hfn => by
      obtain rfl : f = 3 := Option.some.inj ((show Tryz.prog.funcNamed "afflux/affluxlaw14.PrintFew" = some 3 by kernel_rfl).symm.trans hf) |>.symm
      obtain rfl : fn = Tryz.f3 := (Option.some.inj (Tryz.func3.symm.trans hfn)).symm
      exact ⟨by kernel_rfl, fun j t ht => by
        rw [Tryz.params3] at ht
        have hm : t ∈ [22, 3] := by simpa using Array.mem_of_getElem? ht
        have hall : ([22, 3].all fun u => !Tryz.prog.wantsStandIn u) = true := by kernel_rfl
        exact (show Tryz.prog.wantsStandIn t = false by simpa using List.all_eq_true.1 hall t hm)⟩)
    (by kernel_rfl)
end Go.Proofs.YtdgapmnojmhllaaGreatDoor
