/- Parts of this proof, one behind the other: RefD, PrtP, PrtA, PrtB, PrtC. -/
import Derived.Test.YtjjfkhbajidmdaaGreatDoorPb7
import Derived.Test.YtjjfkhbajidmdaaGreatDoorPb6
import Derived.Test.YtjjfkhbajidmdaaGreatDoorPb1
import Derived.ProofKit
import Derived.Test.YtjjfkhbajidmdaaGreatDoorPb2
import Derived.Test.YtjjfkhbajidmdaaGreatDoorProg
import Derived.Laws.IdiomStrings
import Derived.WalkLawsBesides
import Derived.Lib.Hide
import Derived.Outline
import Derived.Lib.Builder
import Derived.Lib.AppendStr
import Derived.Lib.UnsafeStr
import Derived.Laws.Externs
import Derived.Laws.IdiomCopy
import Derived.Lib.Strings
import Derived.Defers
set_option maxRecDepth 1000000
set_option maxHeartbeats 40000000
namespace Go.Proofs.YtjjfkhbajidmdaaGreatDoor
open Go.RowKit Go.Afx Go.ChangeShapes Go.WideShapes Go.Deep
section
variable {H:Type} {enc:TypeId×Value→H} {w:World} {base:Nat} {spare:Nat→Bool} {held:Bool}
theorem fields_of {P:Program} {t:TypeId} {fs:Array Field} {fuel:Nat} {cs:List Value} {x:DataW H×List MemPlace} (ht:P.underlying t=some (.struct fs)) (h:DataW.trod enc P w base spare held fuel t cs=some x) :
  ∀ (i:Nat) (f:Field),fs[i]?=some f→∃ m y,DataW.trod enc P w base spare held m f.type ((cs.drop f.offset).take (P.cellsOf f.type))=some y:=by
 obtain⟨xs,n,_,_,_,hl,hf⟩:=DataW.trod_struct ht h
 intro i f hi
 have hlt:i<fs.size:=(Array.getElem?_eq_some_iff.1 hi).1
 exact⟨n,xs[i]'(by omega),by rw[hf i f hi];exact List.getElem?_eq_getElem _⟩
theorem wJ {P:Program} {t e:TypeId} {fuel:Nat} {v:Value} {x:DataW H×List MemPlace} (ht:P.underlying t=some (.slice e)) (h:DataW.trod enc P w base spare held fuel t [v]=some x):∃ A n c,v=.slice A n c:=by
 rcases open_slice ht h with ⟨hcs,_⟩|⟨a,len,cap,m,q,D,Pl,hcs,_⟩
 ·simp only[List.cons.injEq,and_true] at hcs;exact⟨_,_,_,hcs⟩
 ·simp only[List.cons.injEq,and_true] at hcs;exact⟨_,_,_,hcs⟩
theorem ag4 {r:List Value} (h:r.length=6):∃ a b c d e f,r=[a,b,c,d,e,f]:=by
 match r,h with
 | [a,b,c,d,e,f],_=>exact⟨a,b,c,d,e,f,rfl⟩
theorem P6 {r:List Value} (h:r.length=8):∃ a b c d e f g k,r=[a,b,c,d,e,f,g,k]:=by
 match r,h with
 | [a,b,c,d,e,f,g,k],_=>exact⟨a,b,c,d,e,f,g,k,rfl⟩
theorem uX {m:Nat} {v:Value} {y:DataW H×List MemPlace} (h:DataW.trod enc Tryz.prog w base spare held m 9 [v]=some y):∃ s,v=.string s∧okS s:=by
 obtain⟨s,hs,_,hk⟩:=DataW.trod_string Tryz.underlying9 h
 simp only[List.cons.injEq,and_true] at hs
 exact⟨s,hs,hk⟩
theorem IJ {m:Nat} {v:Value} {y:DataW H×List MemPlace} (h:DataW.trod enc Tryz.prog w base spare held m 3 [v]=some y):∃ k,v=.int .i64 k∧okI k:=by
 obtain⟨k,hs,_,hk⟩:=DataW.trod_int Tryz.underlying3 h
 simp only[List.cons.injEq,and_true] at hs
 exact⟨k,hs,Sv hk⟩
theorem aam {m:Nat} {v:Value} {y:DataW H×List MemPlace} (h:DataW.trod enc Tryz.prog w base spare held m 2 [v]=some y):∃ k,v=.int .i64 k∧okI k:=by
 obtain⟨k,hs,_,hk⟩:=DataW.trod_int Tryz.underlying2 h
 simp only[List.cons.injEq,and_true] at hs
 exact⟨k,hs,Sv hk⟩
theorem Dt {m:Nat} {v:Value} {y:DataW H×List MemPlace} (h:DataW.trod enc Tryz.prog w base spare held m 25 [v]=some y):∃ A n c xs,v=.slice A n c∧ai (Old w) w 1 kD A n c xs:=by
 obtain⟨A,n,c,rfl⟩:=wJ Tryz.underlying25 h
 obtain⟨xs,hx⟩:=LZ Tryz.underlying25 Tryz.underlying3 (by kernel_rfl) h
 exact⟨A,n,c,xs,rfl,hx⟩
theorem adB {m:Nat} {v:Value} {y:DataW H×List MemPlace} (h:DataW.trod enc Tryz.prog w base spare held m 47 [v]=some y):∃ A n c xs,v=.slice A n c∧ai (Old w) w 1 dL A n c xs:=by
 obtain⟨A,n,c,rfl⟩:=wJ Tryz.underlying47 h
 obtain⟨xs,hx⟩:=L6 Tryz.underlying47 Tryz.underlying9 (by kernel_rfl) h
 exact⟨A,n,c,xs,rfl,hx⟩
theorem cS:Tryz.prog.cellsOf 9=1:=by kernel_rfl
theorem cI:Tryz.prog.cellsOf 3=1:=by kernel_rfl
theorem cJ:Tryz.prog.cellsOf 2=1:=by kernel_rfl
theorem cIs:Tryz.prog.cellsOf 25=1:=by kernel_rfl
theorem cSs:Tryz.prog.cellsOf 47=1:=by kernel_rfl
theorem cCo:Tryz.prog.cellsOf 22=1:=by kernel_rfl
theorem cLf:Tryz.prog.cellsOf 23=1:=by kernel_rfl
theorem cKn:Tryz.prog.cellsOf 24=1:=by kernel_rfl
theorem aki {m:Nat} {r:List Value} {y:DataW H×List MemPlace} (hl:r.length=2) (h:DataW.trod enc Tryz.prog w base spare held m 67 r=some y):∃ c:Co,rO r c:=by
 obtain⟨a,b,rfl⟩:∃ a b,r=[a,b]:=by
  match r,hl with
  | [a,b],_=>exact⟨a,b,rfl⟩
 have hF:=fields_of Tryz.underlying67 h
 obtain⟨m0,y0,h0⟩:=hF 0 _ rfl
 obtain⟨m1,y1,h1⟩:=hF 1 _ rfl
 replace h0:DataW.trod enc Tryz.prog w base spare held m0 9 (([a,b]:List Value).drop 0 |>.take (Tryz.prog.cellsOf 9))=some y0:=h0
 rw[cS] at h0
 replace h1:DataW.trod enc Tryz.prog w base spare held m1 3 (([a,b]:List Value).drop 1 |>.take (Tryz.prog.cellsOf 3))=some y1:=h1
 rw[cI] at h1
 obtain⟨s,rfl,k1⟩:=uX h0
 obtain⟨i,rfl,k2⟩:=IJ h1
 exact⟨⟨s,i⟩,rfl,k1,k2⟩
theorem adC {m:Nat} {v:Value} {y:DataW H×List MemPlace} (h:DataW.trod enc Tryz.prog w base spare held m 22 [v]=some y):∃ A n c xs,v=.slice A n c∧ai (Old w) w 2 rO A n c xs:=by
 obtain⟨A,n,c,rfl⟩:=wJ Tryz.underlying22 h
 obtain⟨xs,hx⟩:=qo Tryz.underlying22 (by kernel_rfl) (by omega) rO (fun r m y hr hy=>aki hr hy) h
 exact⟨A,n,c,xs,rfl,hx⟩
theorem akj {m:Nat} {r:List Value} {y:DataW H×List MemPlace} (hl:r.length=6) (h:DataW.trod enc Tryz.prog w base spare held m 70 r=some y):∃ x:Lf,yU (Old w) w r x:=by
 obtain⟨a,b,c,d,e,f,rfl⟩:=ag4 hl
 have hF:=fields_of Tryz.underlying70 h
 obtain⟨m0,y0,h0⟩:=hF 0 _ rfl
 obtain⟨m1,y1,h1⟩:=hF 1 _ rfl
 obtain⟨m2,y2,h2⟩:=hF 2 _ rfl
 obtain⟨m3,y3,h3⟩:=hF 3 _ rfl
 obtain⟨m4,y4,h4⟩:=hF 4 _ rfl
 obtain⟨m5,y5,h5⟩:=hF 5 _ rfl
 replace h0:DataW.trod enc Tryz.prog w base spare held m0 3 (([a,b,c,d,e,f]:List Value).drop 0 |>.take (Tryz.prog.cellsOf 3))=some y0:=h0
 rw[cI] at h0
 replace h1:DataW.trod enc Tryz.prog w base spare held m1 2 (([a,b,c,d,e,f]:List Value).drop 1 |>.take (Tryz.prog.cellsOf 2))=some y1:=h1
 rw[cJ] at h1
 replace h2:DataW.trod enc Tryz.prog w base spare held m2 9 (([a,b,c,d,e,f]:List Value).drop 2 |>.take (Tryz.prog.cellsOf 9))=some y2:=h2
 rw[cS] at h2
 replace h3:DataW.trod enc Tryz.prog w base spare held m3 9 (([a,b,c,d,e,f]:List Value).drop 3 |>.take (Tryz.prog.cellsOf 9))=some y3:=h3
 rw[cS] at h3
 replace h4:DataW.trod enc Tryz.prog w base spare held m4 9 (([a,b,c,d,e,f]:List Value).drop 4 |>.take (Tryz.prog.cellsOf 9))=some y4:=h4
 rw[cS] at h4
 replace h5:DataW.trod enc Tryz.prog w base spare held m5 25 (([a,b,c,d,e,f]:List Value).drop 5 |>.take (Tryz.prog.cellsOf 25))=some y5:=h5
 rw[cIs] at h5
 obtain⟨i0,rfl,k0⟩:=IJ h0
 obtain⟨i1,rfl,k1⟩:=aam h1
 obtain⟨s2,rfl,k2⟩:=uX h2
 obtain⟨s3,rfl,k3⟩:=uX h3
 obtain⟨s4,rfl,k4⟩:=uX h4
 obtain⟨A5,n5,c5,l5,rfl,k5⟩:=Dt h5
 exact⟨⟨i0,i1,s2,s3,s4,l5⟩,k0,k1,k2,k3,k4,A5,n5,c5,rfl,k5⟩
theorem WI {m:Nat} {v:Value} {y:DataW H×List MemPlace} (h:DataW.trod enc Tryz.prog w base spare held m 23 [v]=some y):∃ A n c xs,v=.slice A n c∧ai (Old w) w 6 (yU (Old w) w) A n c xs:=by
 obtain⟨A,n,c,rfl⟩:=wJ Tryz.underlying23 h
 obtain⟨xs,hx⟩:=qo Tryz.underlying23 (by kernel_rfl) (by omega) (yU (Old w) w) (fun r m y hr hy=>akj hr hy) h
 exact⟨A,n,c,xs,rfl,hx⟩
theorem akk {m:Nat} {r:List Value} {y:DataW H×List MemPlace} (hl:r.length=8) (h:DataW.trod enc Tryz.prog w base spare held m 72 r=some y):∃ x:Kn,yV (Old w) w r x:=by
 obtain⟨a,b,c,d,e,f,g,k,rfl⟩:=P6 hl
 have hF:=fields_of Tryz.underlying72 h
 obtain⟨m0,y0,h0⟩:=hF 0 _ rfl
 obtain⟨m1,y1,h1⟩:=hF 1 _ rfl
 obtain⟨m2,y2,h2⟩:=hF 2 _ rfl
 obtain⟨m3,y3,h3⟩:=hF 3 _ rfl
 obtain⟨m4,y4,h4⟩:=hF 4 _ rfl
 obtain⟨m5,y5,h5⟩:=hF 5 _ rfl
 obtain⟨m6,y6,h6⟩:=hF 6 _ rfl
 obtain⟨m7,y7,h7⟩:=hF 7 _ rfl
 replace h0:DataW.trod enc Tryz.prog w base spare held m0 3 (([a,b,c,d,e,f,g,k]:List Value).drop 0 |>.take (Tryz.prog.cellsOf 3))=some y0:=h0
 rw[cI] at h0
 replace h1:DataW.trod enc Tryz.prog w base spare held m1 9 (([a,b,c,d,e,f,g,k]:List Value).drop 1 |>.take (Tryz.prog.cellsOf 9))=some y1:=h1
 rw[cS] at h1
 replace h2:DataW.trod enc Tryz.prog w base spare held m2 9 (([a,b,c,d,e,f,g,k]:List Value).drop 2 |>.take (Tryz.prog.cellsOf 9))=some y2:=h2
 rw[cS] at h2
 replace h3:DataW.trod enc Tryz.prog w base spare held m3 3 (([a,b,c,d,e,f,g,k]:List Value).drop 3 |>.take (Tryz.prog.cellsOf 3))=some y3:=h3
 rw[cI] at h3
 replace h4:DataW.trod enc Tryz.prog w base spare held m4 47 (([a,b,c,d,e,f,g,k]:List Value).drop 4 |>.take (Tryz.prog.cellsOf 47))=some y4:=h4
 rw[cSs] at h4
 replace h5:DataW.trod enc Tryz.prog w base spare held m5 25 (([a,b,c,d,e,f,g,k]:List Value).drop 5 |>.take (Tryz.prog.cellsOf 25))=some y5:=h5
 rw[cIs] at h5
 replace h6:DataW.trod enc Tryz.prog w base spare held m6 25 (([a,b,c,d,e,f,g,k]:List Value).drop 6 |>.take (Tryz.prog.cellsOf 25))=some y6:=h6
 rw[cIs] at h6
 replace h7:DataW.trod enc Tryz.prog w base spare held m7 25 (([a,b,c,d,e,f,g,k]:List Value).drop 7 |>.take (Tryz.prog.cellsOf 25))=some y7:=h7
 rw[cIs] at h7
 obtain⟨i0,rfl,k0⟩:=IJ h0
 obtain⟨s1,rfl,k1⟩:=uX h1
 obtain⟨s2,rfl,k2⟩:=uX h2
 obtain⟨i3,rfl,k3⟩:=IJ h3
 obtain⟨A4,n4,c4,l4,rfl,k4⟩:=adB h4
 obtain⟨A5,n5,c5,l5,rfl,k5⟩:=Dt h5
 obtain⟨A6,n6,c6,l6,rfl,k6⟩:=Dt h6
 obtain⟨A7,n7,c7,l7,rfl,k7⟩:=Dt h7
 exact⟨⟨i0,s1,s2,i3,l4,l5,l6,l7⟩,k0,k3,k1,k2,A4,n4,c4,A5,n5,c5,A6,n6,c6,A7,n7,c7,rfl,k4,k5,k6,k7⟩
theorem aan {m:Nat} {v:Value} {y:DataW H×List MemPlace} (h:DataW.trod enc Tryz.prog w base spare held m 24 [v]=some y):∃ A n c xs,v=.slice A n c∧ai (Old w) w 8 (yV (Old w) w) A n c xs:=by
 obtain⟨A,n,c,rfl⟩:=wJ Tryz.underlying24 h
 obtain⟨xs,hx⟩:=qo Tryz.underlying24 (by kernel_rfl) (by omega) (yV (Old w) w) (fun r m y hr hy=>akk hr hy) h
 exact⟨A,n,c,xs,rfl,hx⟩
theorem ag5 {m:Nat} {r:List Value} {y:DataW H×List MemPlace} (hl:r.length=8) (h:DataW.trod enc Tryz.prog w base spare held m 27 r=some y):∃ (name src part:ByteArray) (fuel:Int) (Ap:Option Addr) (np cp:Nat) (params:List Co) (A A':Option Addr) (n c n' c':Nat) (xs:List Lf) (ys:List Kn) (Ak:Option Addr) (nk ck:Nat) (ks:List Int),r=[.string name,.string src,.string part,.int .i64 fuel,.slice Ap np cp,.slice A n c,.slice A' n' c',.slice Ak nk ck]∧ai (Old w) w 2 rO Ap np cp params∧ai (Old w) w 6 (yU (Old w) w) A n c xs∧ai (Old w) w 8 (yV (Old w) w) A' n' c' ys∧ai (Old w) w 1 kD Ak nk ck ks∧okS name∧okS src∧okS part∧okI fuel:=by
 obtain⟨a,b,c,d,e,f,g,k,rfl⟩:=P6 hl
 have hF:=fields_of Tryz.underlying27 h
 obtain⟨m0,y0,h0⟩:=hF 0 _ rfl
 obtain⟨m1,y1,h1⟩:=hF 1 _ rfl
 obtain⟨m2,y2,h2⟩:=hF 2 _ rfl
 obtain⟨m3,y3,h3⟩:=hF 3 _ rfl
 obtain⟨m4,y4,h4⟩:=hF 4 _ rfl
 obtain⟨m5,y5,h5⟩:=hF 5 _ rfl
 obtain⟨m6,y6,h6⟩:=hF 6 _ rfl
 obtain⟨m7,y7,h7⟩:=hF 7 _ rfl
 replace h0:DataW.trod enc Tryz.prog w base spare held m0 9 (([a,b,c,d,e,f,g,k]:List Value).drop 0 |>.take (Tryz.prog.cellsOf 9))=some y0:=h0
 rw[cS] at h0
 replace h1:DataW.trod enc Tryz.prog w base spare held m1 9 (([a,b,c,d,e,f,g,k]:List Value).drop 1 |>.take (Tryz.prog.cellsOf 9))=some y1:=h1
 rw[cS] at h1
 replace h2:DataW.trod enc Tryz.prog w base spare held m2 9 (([a,b,c,d,e,f,g,k]:List Value).drop 2 |>.take (Tryz.prog.cellsOf 9))=some y2:=h2
 rw[cS] at h2
 replace h3:DataW.trod enc Tryz.prog w base spare held m3 3 (([a,b,c,d,e,f,g,k]:List Value).drop 3 |>.take (Tryz.prog.cellsOf 3))=some y3:=h3
 rw[cI] at h3
 replace h4:DataW.trod enc Tryz.prog w base spare held m4 22 (([a,b,c,d,e,f,g,k]:List Value).drop 4 |>.take (Tryz.prog.cellsOf 22))=some y4:=h4
 rw[cCo] at h4
 replace h5:DataW.trod enc Tryz.prog w base spare held m5 23 (([a,b,c,d,e,f,g,k]:List Value).drop 5 |>.take (Tryz.prog.cellsOf 23))=some y5:=h5
 rw[cLf] at h5
 replace h6:DataW.trod enc Tryz.prog w base spare held m6 24 (([a,b,c,d,e,f,g,k]:List Value).drop 6 |>.take (Tryz.prog.cellsOf 24))=some y6:=h6
 rw[cKn] at h6
 replace h7:DataW.trod enc Tryz.prog w base spare held m7 25 (([a,b,c,d,e,f,g,k]:List Value).drop 7 |>.take (Tryz.prog.cellsOf 25))=some y7:=h7
 rw[cIs] at h7
 obtain⟨name,rfl,k0⟩:=uX h0
 obtain⟨src,rfl,k1⟩:=uX h1
 obtain⟨part,rfl,k2⟩:=uX h2
 obtain⟨fuel,rfl,k3⟩:=IJ h3
 obtain⟨Ap,np,cp,params,rfl,k4⟩:=adC h4
 obtain⟨A,n,c,xs,rfl,k5⟩:=WI h5
 obtain⟨A',n',c',ys,rfl,k6⟩:=aan h6
 obtain⟨Ak,nk,ck,ks,rfl,k7⟩:=Dt h7
 exact⟨name,src,part,fuel,Ap,np,cp,params,A,A',n,c,n',c',xs,ys,Ak,nk,ck,ks,rfl,k4,k5,k6,k7,k0,k1,k2,k3⟩
end
end Go.Proofs.YtjjfkhbajidmdaaGreatDoor
namespace Go.Afx
open Go.RowKit
def Du (n:Nat):List UInt8:=if _h:n=0 then [] else Du (n / 10)++[UInt8.ofNat (48+n % 10)]
termination_by n
decreasing_by omega
theorem mM:Du 0=[]:=by rw[Du];rfl
theorem wK {n:Nat} (h:0<n):Du n=Du (n / 10)++[UInt8.ofNat (48+n % 10)]:=by
 rw[Du,dif_neg (by omega)]
theorem aao (k:Nat):∀ n,n<10 ^ k→(Du n).length≤k:=by
  induction k with
  | zero => intro n h;obtain rfl:n=0:=by simpa using h
            rw[mM];exact Nat.le_refl _
  | succ k ih =>
    intro n h
    rcases Nat.eq_zero_or_pos n with rfl|hp
    · rw[mM];exact Nat.zero_le _
    · rw[wK hp,List.length_append]
      have:=ih (n / 10) (by rw[Nat.pow_succ] at h;omega)
      simp only[List.length_cons,List.length_nil]
      omega
def dU (n:Int):List UInt8:=if n=0 then [48] else Du n.toNat
theorem IK {n : Int} (h:okI n):(dU n).length≤19:=by
  unfold dU okI at *
  split
  · decide
  · exact aao 19 _ (by have:(10:Nat) ^ 19=10000000000000000000:=by decide
                       omega)
def Ai (l:List UInt8):List UInt8:=l.flatMap fun c=>if c=39 then [39,39] else [c]
theorem Vx (l:List UInt8):(Ai l).length≤2*l.length:=by
 induction l with
 | nil=>decide
 | cons a r ih =>
  unfold Ai at *
  rw[List.flatMap_cons,List.length_append,List.length_cons]
  split<;>simp only[List.length_cons,List.length_nil]<;>omega
def iH (s:ByteArray):List UInt8:=[39]++Ai s.data.toList++[39]
def amY:List (List UInt8):=[[43],[45],[42],[47],[37],[61],[33,61],[60],[60,61],[62,61],[62],[97,110,100],[111,114],[110,111,116,32],[45],[99,111,117,110,116],[115,117,109],[109,105,110],[109,97,120]]
def amZ:List Int:=[5,5,6,6,6,4,4,4,4,4,4,2,1,3,7,8,8,8,8]
def jQ (op:Int):List UInt8:=if op<6 then [] else amY.getD (op-6).toNat []
def iM (op:Int):Int:=if op<6 then 8 else amZ.getD (op-6).toNat 8
theorem IL {op:Int} (h1:1≤op) (h2:op≤24):op=1∨op=2∨op=3∨op=4∨op=5∨op=6∨op=7∨op=8∨op=9∨op=10∨op=11∨op=12∨op=13∨op=14∨op=15∨op=16∨op=17∨op=18∨op=19∨op=20∨op=21∨op=22∨op=23∨op=24:=by omega
theorem aap {op:Int} (h1:1≤op) (h2:op≤24):(jQ op).length≤5:=by
 rcases IL h1 h2 with rfl|rfl|rfl|rfl|rfl|rfl|rfl|rfl|rfl|rfl|rfl|rfl|rfl|rfl|rfl|rfl|rfl|rfl|rfl|rfl|rfl|rfl|rfl|rfl<;>decide
theorem Vy {op:Int} (h1:1≤op) (h2:op≤24):1≤iM op∧iM op≤8:=by
 rcases IL h1 h2 with rfl|rfl|rfl|rfl|rfl|rfl|rfl|rfl|rfl|rfl|rfl|rfl|rfl|rfl|rfl|rfl|rfl|rfl|rfl|rfl|rfl|rfl|rfl|rfl<;>decide
def tq (least op:Int) (t:List UInt8):List UInt8:=if iM op<least then [40]++t++[41] else t
def pF (op n:Int) (t:List UInt8):List UInt8:=if op=3∧n=1 then [] else [32,119,104,101,114,101,32]++t
def kJ (name src:ByteArray) (op n:Int) (t:List UInt8):List UInt8:=name.data.toList++[32,105,110,32]++src.data.toList++pF op n t
def jR:List UInt8:=[116,114,117,101]
def gz:List UInt8:=[102,97,108,115,101]
def aY:Nat→Ex→List UInt8
 | 0,_=>[]
 | d+1,e =>
  if e.op=1 then dU e.n
  else if e.op=2 then iH e.s
  else if e.op=3 then (if e.n=1 then jR else gz)
  else if e.op=4 then e.name.data.toList
  else if e.op=5 then e.name.data.toList++[46]++e.s.data.toList
  else match e.args with
   | []=>[]
   | a::r =>
    if e.op=19∨e.op=20 then jQ e.op++tq (iM e.op) a.op (aY d a)
    else if 21≤e.op then jQ e.op++[40]++kJ e.name e.src a.op a.n (aY d a)++(if e.op=21 then [] else [58,32]++(match r with|[]=>[]|b::_=>aY d b))++[41]
    else tq (iM e.op+if iM e.op=4 then 1 else 0) a.op (aY d a)++([32]++jQ e.op++[32])++(match r with|[]=>[]|b::_=>tq (iM e.op+1) b.op (aY d b))
def zH:Nat→Ex→Bool
 | 0,_=>false
 | d+1,e=>(decide (e.op=2)&&e.s.data.toList.any (·==10))||e.args.any (zH d)
theorem oI {d:Nat} {e:Ex} (h:aA (d+1) e=true):iY e.op=e.args.length∧bT e.op e.n e.s e.name e.src=true∧∀ x∈e.args,aA d x=true:=by
 rw[aA] at h
 unfold agc Vz at h
 simp only[Bool.and_eq_true,decide_eq_true_eq,List.all_eq_true] at h
 exact⟨h.1.1,h.1.2,h.2⟩
theorem P7 {op:Int} {n:Nat} (h:iY op=(n:Int)):1≤op∧op≤24:=by
 unfold iY at h
 split at h
 ·omega
 ·split at h
  ·omega
  ·split at h
   ·omega
   ·split at h
    ·omega
    ·split at h<;>omega
theorem rQ {d:Nat} {e:Ex} (h:aA d e=true):1≤e.op∧e.op≤24:=by
 cases d with
 | zero=>cases h
 | succ d=>exact P7 (oI h).1
theorem iw {s:ByteArray} (h:aJ s=true):s.data.toList.length≤16:=by
 unfold aJ dV at h
 revert h
 generalize s.data.toList=l
 cases l with
 | nil=>intro _;decide
 | cons a r =>
  intro h
  simp only[Bool.and_eq_true,decide_eq_true_eq] at h
  simp only[List.length_cons]
  omega
theorem wM (least op:Int) (t:List UInt8):(tq least op t).length≤t.length+2:=by
 unfold tq
 split
 ·simp only[List.length_append,List.length_cons,List.length_nil];omega
 ·omega
theorem zI (op n:Int) (t:List UInt8):(pF op n t).length≤t.length+7:=by
 unfold pF
 split
 ·simp
 ·simp only[List.length_append,List.length_cons,List.length_nil];omega
end Go.Afx
namespace Go.Proofs.YtjjfkhbajidmdaaGreatDoor
open Go.RowKit Go.Afx
theorem adD (n:Int) (w:World) (h0:0≤n) (h1:n≤9223372036854775807):Calls Tryz.prog 81 #[.int .i64 n] w fun e w'=>e=.returned (.int .u64 n)∧w=w':=by
 have e:IntKind.u64.wrap n=n:=by simp only[IntKind.wrap,IntKind.bits,IntKind.signed];simp;omega
 go_enter Tryz.func81,Tryz.ntmps81
 go_wp2
 go_ret
 exact⟨rfl,rfl⟩
structure IM (n:Nat) (g:Nat) (w:World) (wr:World) (a u:Nat):Prop where
 low:Below g w wr
 at_:a≤20
 fits:u<10 ^ (a-1)
 cells:∃ cs:Array Value,af wr g 133 cs∧cs.size=20∧∃ tl:List UInt8,tl.length=20-a∧Du n=Du u++tl∧∀ j,j<tl.length→cs[a+j]?=some (.int .u8 ((tl.getD j 0).toNat:Int))
theorem aaq (u:Nat):((UInt8.ofNat (48+u % 10)).toNat:Int)=48+(u:Int) % 10:=by
 rw[UInt8.toNat_ofNat']
 omega
theorem IM.step {n g:Nat} {w wr:World} {b u:Nat} (h:IM n g w wr (b+1) u) (hu:0<u):IM n g w (wr.setCell ⟨g,b,none⟩ (.int .u8 (48+(u:Int) % 10))) b (u / 10):=by
 obtain⟨cs,hx,hsz,tl,htl,hdg,hcs⟩:=h.cells
 have ha:=h.at_
 refine⟨h.low.setCell (p:=⟨g,b,none⟩) (Nat.le_refl _) _,by omega,?_,_,hx.stored b _,by simp[hsz],UInt8.ofNat (48+u % 10)::tl,by simp[htl];omega,?_,fun j hj=>?_⟩
 ·have hf:=h.fits
  rw[Nat.add_sub_cancel] at hf
  rcases Nat.eq_zero_or_pos b with rfl|hb
  ·simp at hf;omega
  ·obtain⟨c,rfl⟩:∃ c,b=c+1:=⟨b-1,by omega⟩
   rw[Nat.pow_succ] at hf
   rw[Nat.add_sub_cancel]
   omega
 ·rw[hdg,wK hu,List.append_assoc]
  rfl
 ·cases j with
  | zero =>
   rw[Nat.add_zero,Array.getElem?_setIfInBounds_self_of_lt (by omega)]
   rw[List.getD_cons_zero,aaq]
  | succ j =>
   have h1:=hcs j (by simpa using hj)
   rw[Array.getElem?_setIfInBounds_ne (by omega),List.getD_cons_succ,← h1]
   congr 1
   omega
theorem WJ {a u:Nat} (h:u<10 ^ (a-1)) (hu:0<u):2≤a:=by
 rcases Nat.lt_or_ge a 2 with h1|h1
 ·have:a-1=0:=by omega
  rw[this] at h
  simp at h
  omega
 ·exact h1
theorem uh (n : Int) (w : World) (h0 : 0 ≤ n) (h1 : n ≤ 9223372036854775807):Calls Tryz.prog 38 #[.int .i64 n] w fun e w'=>e=.returned (.string ⟨(dU n).toArray⟩)∧Below w.heap.size w w':=by
  by_cases hz:n=0
  · subst hz
    go_enter Tryz.func38,Tryz.ntmps38
    go_wp2
    go_ret
    exact⟨rfl,Below.refl _ _⟩
  have hd:(n==0)=false:=by simpa using hz
  have hn:¬ n<0:=by omega
  have Hz:=ae hz
  clear hz
  go_enter Tryz.func38,Tryz.ntmps38
  go_wp2_with (go_at_call 81;refine(adD n _ h0 h1).mono ?_;rintro e w' ⟨rfl,rfl⟩)
  have hx0:=af.laid w 133 #[.int .u8 0,.int .u8 0,.int .u8 0,.int .u8 0,.int .u8 0,.int .u8 0,.int .u8 0,.int .u8 0,.int .u8 0,.int .u8 0,.int .u8 0,.int .u8 0,.int .u8 0,.int .u8 0,.int .u8 0,.int .u8 0,.int .u8 0,.int .u8 0,.int .u8 0,.int .u8 0]
  have hstart:IM n.toNat w.heap.size w (w.alloc (.cells #[.int .u8 0,.int .u8 0,.int .u8 0,.int .u8 0,.int .u8 0,.int .u8 0,.int .u8 0,.int .u8 0,.int .u8 0,.int .u8 0,.int .u8 0,.int .u8 0,.int .u8 0,.int .u8 0,.int .u8 0,.int .u8 0,.int .u8 0,.int .u8 0,.int .u8 0,.int .u8 0] 133)) 20 n.toNat :=
    ⟨(Below.refl _ _).alloc (Nat.le_refl _) _, Nat.le_refl _, by have:(10:Nat) ^ (20-1)=10000000000000000000:=by decide
                                                                 omega,_,hx0,rfl,[],rfl,by simp,fun j hj=>by simp at hj⟩
  have J6:=ae hstart
  obtain⟨N,rfl⟩:∃ N:Nat,n=(N:Int):=⟨n.toNat,by omega⟩
  clear hx0 hstart
  go_loopw [4,5] (fun a u wr=>∃ (k m:Nat),a=.int .i64 k∧u=.int .u64 m∧m≤N∧IM N w.heap.size w wr k m) (fun _ u _=>(intOf u).toNat)
  case atStart=>exact⟨20,N,rfl,rfl,Nat.le_refl _,J6.out⟩
  case round =>
    obtain⟨a,u,rfl,rfl,hle,hD⟩:=hrel
    have HD:=ae hD
    by_cases hu:0<u
    · have h2:=WJ hD.fits hu
      obtain⟨b,rfl⟩:∃ b,a=b+1:=⟨a-1,by omega⟩
      have aqh:=hD.at_
      obtain⟨cs,hx,hsz,tl,htl,hdg,hcs⟩:=hD.cells
      have hlt:=hx.lt
      have hcell:wr.cell? ⟨w.heap.size,b,none⟩=some (cs[b]'(by omega)):=by rw[hx.cell];exact Array.getElem?_eq_getElem _
      have hfz:=hx.frozen
      have Hx:=ae hx
      have Hc:=ae hcs
      have Hd:=ae hdg
      have KE:=ae htl
      have e1:IntKind.u8.wrap (48+(u:Int) % 10)=48+(u:Int) % 10:=by simp only[IntKind.wrap,IntKind.bits,IntKind.signed];simp;omega
      have jM:=ae hsz
      generalize cs[b]'(by omega)=old at *
      clear hx hcs hdg htl hD hsz
      go_wp2
      go_roundw
      case rel=>exact⟨b,u / 10,rfl,by go_num,Nat.le_trans (Nat.div_le_self _ _) hle,HD.out.step hu⟩
      case measure=>simp[intOf];omega
    · obtain rfl:u=0:=by omega
      have aqi:=hD.at_
      obtain⟨cs,hx,hsz,tl,htl,hdg,hcs⟩:=hD.cells
      have akl:dU (N:Int)=tl:=by
        unfold dU
        rw[if_neg Hz.out,Int.toNat_natCast,hdg,mM,List.nil_append]
      have hcv:=fun (src:TypeId) (hs:Tryz.prog.underlying src=some (.slice 5))=>run_convert_bytes_back (P:=Tryz.prog) wr src 9 5 ⟨w.heap.size,a,none⟩ (20-a) tl hs Tryz.underlying5 Tryz.underlying9 (fun j hj=>by
        have h:=hcs j hj
        have e:((⟨w.heap.size,a,none⟩:Addr).add j)=⟨w.heap.size,a+j,none⟩:=by
          unfold Addr.add
          split
          · rename_i h0;subst h0;rfl
          · rfl
        rw[e,hx.cell,h,List.getD_eq_getElem?_getD,List.getElem?_eq_getElem hj]
        rfl)
      rw[htl] at hcv
      have Hcv:=ae (hcv 79 Tryz.underlying79)
      have wG:=ae hD.low
      have hf:=Hcv.out
      have i1:(0:Int)≤(a:Int):=by omega
      have i2:(a:Int)≤20:=by omega
      have ha:a<20:=by
        have hN:0<N:=by have:=Hz.out;omega
        have h:=hdg
        rw[mM,List.nil_append,wK hN] at h
        have h2:tl.length≠0:=by rw[← h];simp
        omega
      have ha2:¬ a=20:=by omega
      have ha3:¬ 20=a:=by omega
      have hd2:decide ((N:Int)<0)=false:=by simp
      have Hdg:=ae akl
      clear hcv hcs hx hdg htl hD akl
      go_wp2
      go_ret
      exact⟨by rw[Hdg.out];rfl,wG.out⟩
def G8 (g:Nat) (t:List UInt8) (br:Bool) (p:Option Addr) (w:World):Prop :=
 ∃ (A:Option Addr) (c:Nat),af w g 83 #[.pointer p,.slice A t.length c,.bool br]∧w.ownsRow (g+1) 5 1 (.slice A t.length c) t.length (Lib.byteCells t)
def bz (g:Nat) (t:List UInt8) (br:Bool) (w:World):Prop:=G8 g t br none w∨G8 g t br (some ⟨g,0,none⟩) w
def uA (w w':World):Prop:=w.heap.size≤w'.heap.size∧∀ (b:Nat) (T:TypeId) (cs:Array Value),T≠83→T≠5→af w b T cs→af w' b T cs
def Wrote (g:Nat) (w w':World):Prop:=Below g w w'∧uA w w'
theorem uA.refl (w:World):uA w w:=⟨Nat.le_refl _,fun _ _ _ _ _ h=>h⟩
theorem uA.trans {a b c:World} (h:uA a b) (k:uA b c):uA a c:=⟨Nat.le_trans h.1 k.1,fun i T cs h1 h2 hb=>k.2 i T cs h1 h2 (h.2 i T cs h1 h2 hb)⟩
theorem uA.of_below {a b:World} (h:Below a.heap.size a b):uA a b:=⟨h.size,fun _ _ _ _ _ hb=>hb.ag (h.block _ hb.lt)⟩
theorem Wrote.refl (g:Nat) (w:World):Wrote g w w:=⟨Below.refl _ _,uA.refl _⟩
theorem Wrote.trans {g:Nat} {a b c:World} (h:Wrote g a b) (k:Wrote g b c):Wrote g a c:=⟨h.1.trans k.1,h.2.trans k.2⟩
theorem Wrote.of_below {g:Nat} {a b:World} (hg:g≤a.heap.size) (h:Below a.heap.size a b):Wrote g a b:=⟨h.mono hg,uA.of_below h⟩
theorem Wrote.alloc {g:Nat} {a b:World} (h:Wrote g a b) (hg:g≤b.heap.size) (o:Obj):Wrote g a (b.alloc o):=h.trans (Wrote.of_below hg ((Below.refl _ _).alloc (Nat.le_refl _) o))
theorem G8.lt {g:Nat} {t:List UInt8} {br:Bool} {p:Option Addr} {w:World} (h:G8 g t br p w):g<w.heap.size:=by
 obtain⟨A,c,hb,_⟩:=h
 exact hb.lt
theorem bz.lt {g:Nat} {t:List UInt8} {br:Bool} {w:World} (h:bz g t br w):g<w.heap.size:=h.elim G8.lt G8.lt
theorem G8.below {g:Nat} {t:List UInt8} {br:Bool} {p:Option Addr} {w w':World} (h:G8 g t br p w) (hb:Below w.heap.size w w'):G8 g t br p w':=by
 obtain⟨A,c,hk,ho⟩:=h
 exact⟨A,c,hk.ag (hb.block _ hk.lt),own_below ho hb⟩
theorem bz.below {g:Nat} {t:List UInt8} {br:Bool} {w w':World} (h:bz g t br w) (hb:Below w.heap.size w w'):bz g t br w':=h.imp (fun x=>x.below hb) (fun x=>x.below hb)
theorem FN {w:World} {g:Nat} {T:TypeId} {v0 v1 v2:Value} (h:af w g T #[v0,v1,v2]):w.cell? ⟨g,0,none⟩=some v0∧w.cell? ⟨g,1,none⟩=some v1∧w.cell? ⟨g,2,none⟩=some v2∧g<w.heap.size∧w.shape? g=some (T,3):=by
 have h0:=h.cell 0;have h1:=h.cell 1;have h2:=h.cell 2
 simp at h0 h1 h2
 exact⟨h0,h1,h2,h.lt,by unfold af at h;simp[World.shape?,h]⟩
theorem wO {w:World} {g:Nat} {cs:Array Value} {i:Nat} {u:Value} (h:af w g 83 cs):uA w (w.setCell ⟨g,i,none⟩ u) :=
 ⟨by simp[World.setCell],fun b T c1 h1 _ hb=>hb.elsewhere (fun e=>h1 (by
  have e:b=g:=e
  subst e
  unfold af at h hb
  rw[h] at hb
  injection hb with hb
  injection hb with _ h2
  exact h2.symm)) _⟩
theorem adE:(Tryz.prog.info? 81).map (·.size)=some 2:=by kernel_rfl
theorem adF:liesAt Tryz.prog Tryz.prog.depth 83 (3 / Tryz.prog.cellsOf 83) 0 81 1=true:=by kernel_rfl
theorem J7 (g:Nat) (t:List UInt8) (br:Bool) (w:World) (h:bz g t br w) :
  Calls Tryz.prog 111 #[.pointer (some ⟨g,0,none⟩)] w fun e w'=>e=.returned (.tuple #[])∧G8 g t br (some ⟨g,0,none⟩) w'∧Wrote g w w':=by
 obtain⟨j,hj,hjs⟩:=Option.map_eq_some_iff.1 adE
 rcases h with h|h
 ·obtain⟨A,c,hk,ho⟩:=h
  have Hk:=ae hk
  have Ho:=ae ho
  obtain⟨c0,c1,c2,hlt,hsh⟩:=FN hk
  have hfz:=hk.frozen 0
  have k1:=Lib.run_to_unsafe (P:=Tryz.prog) (w:=w) ⟨g,0,none⟩ Tryz.underlying78 Tryz.underlying180 hj (by rw[hjs];decide) hsh (by show 0<3;decide)
  have k2:(callFunc 137 #[.pointer (some ⟨g,0,none⟩)]).run Tryz.prog w=.ok (.value (.pointer (some ⟨g,0,none⟩))) w:=by
   rw[run_callFunc_extern Tryz.func137 (by kernel_rfl) (by kernel_rfl) (by kernel_rfl) (e:=Extern.AbiNoEscape.same) (by kernel_rfl)]
   rfl
  have k3:=Lib.run_from_unsafe (P:=Tryz.prog) (w:=w) ⟨g,0,none⟩ Tryz.underlying180 Tryz.underlying78 hj hsh adF
  clear hk ho hj hjs hsh
  go_enter Tryz.func111,Tryz.ntmps111
  go_wp2
  go_end0
  refine⟨rfl,⟨A,c,?_,?_⟩,(Below.refl _ _).setCell (p:=⟨g,0,none⟩) (Nat.le_refl _) _,wO Hk.out⟩
  ·exact Hk.out.stored 0 _
  ·exact eP Ho.out ((But.refl (fun i=>i=g) w).setCell (p:=⟨g,0,none⟩) (.inl rfl) _) (fun i hi e=>by
    subst e
    have:=(Ho.out.lt i hi).1
    omega)
 ·obtain⟨A,c,hk,ho⟩:=h
  have Hk:=ae hk
  have Ho:=ae ho
  obtain⟨c0,c1,c2,hlt,hsh⟩:=FN hk
  have k1:=Lib.run_neq_ptr_same (P:=Tryz.prog) w ⟨g,0,none⟩ Tryz.underlying78 hj
  clear hk ho hsh hj hjs
  go_enter Tryz.func111,Tryz.ntmps111
  go_wp2
  go_end0
  exact⟨rfl,⟨A,c,Hk.out,Ho.out⟩,Wrote.refl _ _⟩
theorem ag6:(Tryz.prog.info? 5).map (fun i=>(i.zero,i.size,i.bytes))=some (some (.int .u8 0),1,1):=by kernel_rfl
theorem J8 (a b:List UInt8):Lib.byteCells (a++b)=Lib.byteCells a++Lib.byteCells b:=by simp[Lib.byteCells]
theorem vO (g:Nat) (t:List UInt8) (br:Bool) (s:ByteArray) (w:World) (h:bz g t br w) (hlen:t.length+s.size≤1000000000) :
  Calls Tryz.prog 80 #[.pointer (some ⟨g,0,none⟩),.string s] w fun e w'=>e=.returned (.tuple #[.int .i64 s.size,.nilIface])∧bz g (t++s.data.toList) br w'∧Wrote g w w':=by
 obtain⟨i0,hi,hz0,hz1,hz2⟩:=info_parts ag6
 have Hc:=ae (J7 g t br w h)
 clear h
 go_enter Tryz.func80,Tryz.ntmps80
 go_wp2_with (go_at_call 111;refine Hc.out.mono ?_)
 rintro e w1 ⟨rfl,⟨A,c,hk,ho⟩,hw1⟩
 obtain⟨c0,c1,c2,hlt,_⟩:=FN hk
 have hf:=hk.frozen 1
 have Hk:=ae hk
 have Ho:=ae ho
 have Hw:=ae hw1
 clear hk hw1
 go_wp2_with (at_builtin;refine Lib.wpList_append_own_string _ rfl _ _ 79 9 rfl (g+1) 5 i0 Tryz.underlying79 Tryz.underlying9 hi hz0 hz1 hz2 _ _ _ rfl ho s rfl ?c3 ?c4 ?c5 ?_)
 case c3=>unfold maxLen;omega
 case c4=>omega
 case c5=>omega
 intro v' w2 hown' hgrow _
 have hne:∀ k,(Value.slice A t.length c).ownBlock=some k→g+1≤k:=fun k hk=>(Ho.out.lt k hk).1
 have hk2:=Hk.out.ag (hgrow.block g hlt (fun e=>by have:=hne g e.symm;omega))
 obtain⟨A',n',c',rfl⟩:∃ A' n' c',v'=.slice A' n' c':=by
  rcases hown'.2 with ⟨hv,_⟩|⟨_,_,_,hv,_⟩
  ·exact⟨_,_,_,hv⟩
  ·exact⟨_,_,_,hv⟩
 obtain⟨d0,d1,d2,_,_⟩:=FN hk2
 have hf2:=hk2.frozen 1
 have Ig:=ae hk2
 have Me:=ae hown'
 have aar:=ae hgrow
 have JZ:=ae hne
 clear ho hk2 hown' hgrow hne
 go_wp2
 go_ret2
 have hk3:=Ig.out.stored 1 (.slice A' n' c')
 have hst:=(But.refl (fun i=>i=g) w2).setCell (p:=⟨g,1,none⟩) (.inl rfl) (.slice A' n' c')
 have hl:t.length+s.size=(t++s.data.toList).length:=by rw[List.length_append];rfl
 obtain⟨A2,c2,hv2,_⟩:=ownsRow_form Me.out
 injection hv2 with e1 e2 e3
 subst e1 e2 e3
 have hb2:Below g w1 w2:=(Below.refl g w1).grown aar.out (by omega) (fun k hk=>by have:=JZ.out k hk;omega)
 have hown3:(w2.setCell ⟨g,1,none⟩ (.slice A' (t.length+s.size) c')).ownsRow (g+1) 5 1 (.slice A' (t.length+s.size) c') (t.length+s.size) (Lib.byteCells t++Lib.strCells s):=eP Me.out hst (fun i hi e=>by
  subst e
  have:=(Me.out.lt i hi).1
  omega)
 refine⟨rfl,.inr ⟨A',c',?_,?_⟩,Hw.out.1.trans (hb2.trans ((Below.refl g w2).setCell (p:=⟨g,1,none⟩) (Nat.le_refl _) _)),Hw.out.2.trans ?_⟩
 ·rw[← hl];exact hk3
 ·rw[← hl,J8];exact hown3
 ·refine uA.trans ⟨aar.out.size,fun b T cs h1 h2 hb=>hb.ag (aar.out.block b hb.lt fun e=>?_)⟩ (wO Ig.out)
  rcases Ho.out.2 with ⟨hv,_⟩|⟨k,cap,cur,hv,_,hk,_⟩
  ·injection hv with e1
   subst e1
   cases e
  ·injection hv with e1
   subst e1
   injection e with e
   subst e
   unfold af at hb
   rw[hk] at hb
   injection hb with hb
   injection hb with _ h3
   exact h2 h3.symm
def aB (xs:List ByteArray):List UInt8:=(xs.map (·.data.toList)).flatten
theorem xK {xs:List ByteArray} {k:Nat} {s:ByteArray} (h:xs[k]?=some s):aB (xs.take (k+1))=aB (xs.take k)++s.data.toList:=by
 obtain⟨hk,rfl⟩:=List.getElem?_eq_some_iff.1 h
 unfold aB
 rw[List.take_succ_eq_append_getElem hk,List.map_append,List.flatten_append]
 rw[List.map_cons,List.map_nil,List.flatten_cons,List.flatten_nil,List.append_nil]
theorem VA (xs:List ByteArray) (k:Nat):(aB (xs.take k)).length≤(aB xs).length:=by
 unfold aB
 conv=>rhs;rw[← List.take_append_drop k xs,List.map_append,List.flatten_append,List.length_append]
 exact Nat.le_add_right _ _
theorem put_any (g b n:Nat) (t:List UInt8) (br:Bool) (xs:List ByteArray) (w:World) (h:bz g t br w) (hb:af w b 9 (xs.map Value.string).toArray) (hn:xs.length=n) (hn2:n≤1000) (hlen:t.length+(aB xs).length≤1000000000) :
  Calls Tryz.prog 37 #[.pointer (some ⟨g,0,none⟩),.slice (some ⟨b,0,none⟩) n n] w fun e w'=>e=.returned (.tuple #[])∧bz g (t++aB xs) br w'∧Wrote g w w':=by
 have H:=ae h
 have Hb:=ae hb
 have Hn:=ae hn
 clear h hb hn
 go_enter Tryz.func37,Tryz.ntmps37
 go_wp2
 go_loopw [8] (fun i wr=>∃ k:Nat,k≤n∧i=.int .i64 k∧bz g (t++aB (xs.take k)) br wr∧Wrote g w wr) (fun i _=>n-(intOf i).toNat)
 case atStart=>exact⟨0,Nat.zero_le _,rfl,by simpa [aB] using H.out,Wrote.refl _ _⟩
 case round =>
  obtain⟨k,hk,rfl,hw,hr⟩:=hrel
  have hbr:af wr b 9 (xs.map Value.string).toArray:=hr.2.2 b _ _ (by decide) (by decide) Hb.out
  by_cases hlt:k<n
  ·have hkx:k<xs.length:=by rw[Hn.out];exact hlt
   have hs:xs[k]?=some (xs[k]'hkx):=List.getElem?_eq_getElem _
   have hc:wr.cell? ⟨b,k,none⟩=some (.string (xs[k]'hkx)):=by
    rw[hbr.cell,List.getElem?_toArray,List.getElem?_map,hs];rfl
   have hbl:=hbr.lt
   have hle:=VA xs (k+1)
   rw[xK hs,List.length_append] at hle
   have hgl:=hw.lt
   have Hc:=ae (vO g (t++aB (xs.take k)) br (xs[k]'hkx) wr hw (by
    rw[List.length_append]
    have e:(xs[k]'hkx).data.toList.length=(xs[k]'hkx).size:=rfl
    omega))
   rw[List.append_assoc,← xK hs] at Hc
   have Hr:=ae hr
   generalize xs[k]'hkx=s at *
   clear hbr hw hr hs hle
   go_wp2_with (go_at_call 80;refine Hc.out.mono ?_;rintro e w2 ⟨rfl,hw2,hr2⟩)
   have Hw2:=ae (And.intro hw2 hr2)
   clear hw2 hr2
   go_roundw
   case rel=>exact⟨k+1,by omega,by go_num,Hw2.out.1,Hr.out.trans Hw2.out.2⟩
   case measure=>simp[intOf];omega
  ·have Hw:=ae (And.intro hw hr)
   clear hw hr hbr
   go_wp2
   go_end0
   have h1:=Hw.out.1
   rw[List.take_of_length_le (by rw[Hn.out];omega)] at h1
   exact⟨rfl,h1,Hw.out.2⟩
theorem akm (u:FrameMode) (g b n:Nat) (t:List UInt8) (br:Bool) (xs:List ByteArray) (w:World) (h:bz g t br w) (hb:af w b 9 (xs.map Value.string).toArray) (hn:xs.length=n) (hn2:n≤1000) (hlen:t.length+(aB xs).length≤1000000000) :
  CallsD Tryz.prog 37 #[.pointer (some ⟨g,0,none⟩),.slice (some ⟨b,0,none⟩) n n] u w fun e u' w'=>u'=u∧(e=.returned (.tuple #[])∧bz g (t++aB xs) br w'∧Wrote g w w'):=by
 have H:=ae h
 have Hb:=ae hb
 have Hn:=ae hn
 clear h hb hn
 go_enter_d Tryz.func37,Tryz.ntmps37
 go_wp2
 go_loopw [8] (fun i wr=>∃ k:Nat,k≤n∧i=.int .i64 k∧bz g (t++aB (xs.take k)) br wr∧Wrote g w wr) (fun i _=>n-(intOf i).toNat)
 case atStart=>exact⟨0,Nat.zero_le _,rfl,by simpa [aB] using H.out,Wrote.refl _ _⟩
 case round =>
  obtain⟨k,hk,rfl,hw,hr⟩:=hrel
  have hbr:af wr b 9 (xs.map Value.string).toArray:=hr.2.2 b _ _ (by decide) (by decide) Hb.out
  by_cases hlt:k<n
  ·have hkx:k<xs.length:=by rw[Hn.out];exact hlt
   have hs:xs[k]?=some (xs[k]'hkx):=List.getElem?_eq_getElem _
   have hc:wr.cell? ⟨b,k,none⟩=some (.string (xs[k]'hkx)):=by
    rw[hbr.cell,List.getElem?_toArray,List.getElem?_map,hs];rfl
   have hbl:=hbr.lt
   have hle:=VA xs (k+1)
   rw[xK hs,List.length_append] at hle
   have hgl:=hw.lt
   have Hc:=ae (vO g (t++aB (xs.take k)) br (xs[k]'hkx) wr hw (by
    rw[List.length_append]
    have e:(xs[k]'hkx).data.toList.length=(xs[k]'hkx).size:=rfl
    omega))
   rw[List.append_assoc,← xK hs] at Hc
   have Hr:=ae hr
   generalize xs[k]'hkx=s at *
   clear hbr hw hr hs hle
   go_wp2_with (go_at_call 80;refine Hc.out.mono ?_;rintro e w2 ⟨rfl,hw2,hr2⟩)
   have Hw2:=ae (And.intro hw2 hr2)
   clear hw2 hr2
   go_roundw
   case rel=>exact⟨k+1,by omega,by go_num,Hw2.out.1,Hr.out.trans Hw2.out.2⟩
   case measure=>simp[intOf];omega
  ·have Hw:=ae (And.intro hw hr)
   clear hw hr hbr
   go_wp2
   go_end0
   have h1:=Hw.out.1
   rw[List.take_of_length_le (by rw[Hn.out];omega)] at h1
   exact⟨rfl,h1,Hw.out.2⟩
end Go.Proofs.YtjjfkhbajidmdaaGreatDoor
