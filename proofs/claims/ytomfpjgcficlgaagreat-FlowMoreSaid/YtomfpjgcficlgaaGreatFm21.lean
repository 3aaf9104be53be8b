/- Parts of this proof, one behind the other: FloU. -/
import Derived.Test.YtomfpjgcficlgaaGreatFm18
import Derived.Test.YtomfpjgcficlgaaGreatFm2
import Derived.ProofKit
set_option maxRecDepth 1000000
set_option maxHeartbeats 40000000
namespace Go.Proofs.YtomfpjgcficlgaaGreat
open Go.RowKit Go.Afx Go.ChangeShapes Go.WideShapes Go.Deep
section
variable {H:Type} {enc:TypeId×Value→H} {w:World} {base:Nat} {spare:Nat→Bool} {held:Bool}
theorem fieldsF {P:Program} {t:TypeId} {fs:Array Field} {fuel:Nat} {cs:List Value} {x:DataW H×List MemPlace} (ht:P.underlying t=some (.struct fs)) (h:DataW.trod enc P w base spare held fuel t cs=some x) :
  ∀ (i:Nat) (f:Field),fs[i]?=some f→∃ m y,DataW.trod enc P w base spare held m f.type ((cs.drop f.offset).take (P.cellsOf f.type))=some y:=by
 obtain⟨xs,n,_,_,_,hl,hf⟩:=DataW.trod_struct ht h
 intro i f hi
 have hlt:i<fs.size:=(Array.getElem?_eq_some_iff.1 hi).1
 exact⟨n,xs[i]'(by omega),by rw[hf i f hi];exact List.getElem?_eq_getElem _⟩
theorem sliceF {P:Program} {t e:TypeId} {fuel:Nat} {v:Value} {x:DataW H×List MemPlace} (ht:P.underlying t=some (.slice e)) (h:DataW.trod enc P w base spare held fuel t [v]=some x):∃ A n c,v=.slice A n c:=by
 rcases open_slice ht h with ⟨hcs,_⟩|⟨a,len,cap,m,q,D,Pl,hcs,_⟩
 ·simp only[List.cons.injEq,and_true] at hcs;exact⟨_,_,_,hcs⟩
 ·simp only[List.cons.injEq,and_true] at hcs;exact⟨_,_,_,hcs⟩
theorem strF {m:Nat} {v:Value} {y:DataW H×List MemPlace} (h:DataW.trod enc Tryz.prog w base spare held m 9 [v]=some y):∃ s,v=.string s∧okS s:=by
 obtain⟨s,hs,_,hk⟩:=DataW.trod_string Tryz.underlying9 h
 simp only[List.cons.injEq,and_true] at hs
 exact⟨s,hs,hk⟩
theorem boolF {m:Nat} {v:Value} {y:DataW H×List MemPlace} (h:DataW.trod enc Tryz.prog w base spare held m 4 [v]=some y):∃ q,v=.bool q:=by
 obtain⟨q,hs,_⟩:=DataW.trod_bool Tryz.underlying4 h
 simp only[List.cons.injEq,and_true] at hs
 exact⟨q,hs⟩
theorem strsF {m:Nat} {v:Value} {y:DataW H×List MemPlace} (h:DataW.trod enc Tryz.prog w base spare held m 23 [v]=some y):∃ A n c xs,v=.slice A n c∧LsAt (Old w) w 1 SRow A n c xs:=by
 obtain⟨A,n,c,rfl⟩:=sliceF Tryz.underlying23 h
 obtain⟨xs,hx⟩:=strs_of_trod Tryz.underlying23 Tryz.underlying9 (by kernel_rfl) h
 exact⟨A,n,c,xs,rfl,hx⟩
theorem cSF:Tryz.prog.cellsOf 9=1:=by kernel_rfl
theorem cBF:Tryz.prog.cellsOf 4=1:=by kernel_rfl
theorem cSsF:Tryz.prog.cellsOf 23=1:=by kernel_rfl
theorem node_of {m:Nat} {r:List Value} {y:DataW H×List MemPlace} (hl:r.length=4) (h:DataW.trod enc Tryz.prog w base spare held m 48 r=some y):∃ x:Nd,NodAt (Old w) w r x:=by
 obtain⟨a,b,c,d,rfl⟩:∃ a b c d,r=[a,b,c,d]:=by
  match r,hl with
  | [a,b,c,d],_=>exact⟨a,b,c,d,rfl⟩
 have hF:=fieldsF Tryz.underlying48 h
 obtain⟨m0,y0,h0⟩:=hF 0 _ rfl
 obtain⟨m1,y1,h1⟩:=hF 1 _ rfl
 obtain⟨m2,y2,h2⟩:=hF 2 _ rfl
 obtain⟨m3,y3,h3⟩:=hF 3 _ rfl
 replace h0:DataW.trod enc Tryz.prog w base spare held m0 9 (([a,b,c,d]:List Value).drop 0 |>.take (Tryz.prog.cellsOf 9))=some y0:=h0
 rw[cSF] at h0
 replace h1:DataW.trod enc Tryz.prog w base spare held m1 9 (([a,b,c,d]:List Value).drop 1 |>.take (Tryz.prog.cellsOf 9))=some y1:=h1
 rw[cSF] at h1
 replace h2:DataW.trod enc Tryz.prog w base spare held m2 23 (([a,b,c,d]:List Value).drop 2 |>.take (Tryz.prog.cellsOf 23))=some y2:=h2
 rw[cSsF] at h2
 replace h3:DataW.trod enc Tryz.prog w base spare held m3 4 (([a,b,c,d]:List Value).drop 3 |>.take (Tryz.prog.cellsOf 4))=some y3:=h3
 rw[cBF] at h3
 obtain⟨s0,rfl,k0⟩:=strF h0
 obtain⟨s1,rfl,k1⟩:=strF h1
 obtain⟨A2,n2,c2,l2,rfl,k2⟩:=strsF h2
 obtain⟨q,rfl⟩:=boolF h3
 exact⟨⟨s0,s1,l2,q⟩,k0,k1,A2,n2,c2,rfl,k2⟩
theorem nodes_of {m:Nat} {v:Value} {y:DataW H×List MemPlace} (h:DataW.trod enc Tryz.prog w base spare held m 22 [v]=some y):∃ A n c xs,v=.slice A n c∧NodsAt (Old w) w A n c xs:=by
 obtain⟨A,n,c,rfl⟩:=sliceF Tryz.underlying22 h
 obtain⟨xs,hx⟩:=ls_of_trod Tryz.underlying22 (by kernel_rfl) (by omega) (NodAt (Old w) w) (fun r m y hr hy=>node_of hr hy) h
 exact⟨A,n,c,xs,rfl,hx⟩
end
end Go.Proofs.YtomfpjgcficlgaaGreat
