/- Parts of this proof, one behind the other: PrtI, PrtJ, PrtK, PrtL. -/
import Derived.Test.YtjjfkhbajidmdaaGreatDoorPb15
import Derived.StillTailTactics
set_option maxRecDepth 1000000
set_option maxHeartbeats 40000000
namespace Go.Proofs.YtjjfkhbajidmdaaGreatDoor
open Go.RowKit Go.Afx
theorem WO (c:UInt8) (l:List UInt8):decide (0≤Lib.indexByte l c)=l.any (·==c):=by
 induction l with
 | nil=>rfl
 | cons b l ih =>
  unfold Lib.indexByte
  rw[List.any_cons]
  cases hb:b==c
  ·simp only[Bool.false_eq_true,if_false,Bool.false_or]
   rw[← ih]
   have:=Lib.indexByte_ge l c
   split
   ·rename_i h
    have h:Lib.indexByte l c = -1:=by simpa using h
    rw[h]
   ·rename_i h
    have h:Lib.indexByte l c≠-1:=by simpa using h
    have h1:(0:Int)≤Lib.indexByte l c:=by omega
    have h2:(0:Int)≤Lib.indexByte l c+1:=by omega
    rw[decide_eq_true h1,decide_eq_true h2]
  ·simp
theorem bz.store {g:Nat} {t:List UInt8} {br:Bool} {w:World} (h:bz g t br w) (b2:Bool):bz g t b2 (w.setCell ⟨g,2,none⟩ (.bool b2))∧Wrote g w (w.setCell ⟨g,2,none⟩ (.bool b2)):=by
 have hin:∀ p,G8 g t br p w→G8 g t b2 p (w.setCell ⟨g,2,none⟩ (.bool b2))∧Wrote g w (w.setCell ⟨g,2,none⟩ (.bool b2)):=by
  rintro p ⟨A,c,hk,ho⟩
  refine⟨⟨A,c,hk.stored 2 _,?_⟩,(Below.refl _ _).setCell (p:=⟨g,2,none⟩) (Nat.le_refl _) _,wO hk⟩
  exact eP ho ((But.refl (fun i=>i=g) w).setCell (p:=⟨g,2,none⟩) (.inl rfl) _) (fun i hi e=>by
   subst e
   have:=(ho.lt i hi).1
   omega)
 rcases h with h|h
 ·exact⟨.inl (hin _ h).1,(hin _ h).2⟩
 ·exact⟨.inr (hin _ h).1,(hin _ h).2⟩
theorem bz.brk {g:Nat} {t:List UInt8} {br:Bool} {w:World} (h:bz g t br w):w.cell? ⟨g,2,none⟩=some (.bool br)∧w.frozen? ⟨g,2,none⟩=false∧g<w.heap.size:=by
 rcases h with ⟨A,c,hk,_⟩|⟨A,c,hk,_⟩<;>exact⟨(FN hk).2.2.1,hk.frozen 2,hk.lt⟩
theorem WQ (n:Int) (s name src:ByteArray) (A:Option Addr) (m c:Nat) (g:Nat) (t:List UInt8) (br:Bool) (w:World) (h:bz g t br w) (hs:s.size≤200) (hm:dZ w) (hg:0<g) (hlen:t.length+(iH s).length≤1000000000) :
  Calls Tryz.prog 29 #[.pointer (some ⟨g,0,none⟩),.agg #[.int .i64 2,.int .i64 n,.string s,.string name,.string src,.slice A m c]] w fun e' w'=>e'=.returned (.tuple #[])∧bz g (t++iH s) (br||s.data.toList.any (·==10)) w'∧Wrote g w w':=by
 have EH:=ae (fun W=>jS 2 W (by decide) (by decide))
 have Hcn:=ae (fun W=>(show Calls Tryz.prog 63 #[.string s,.string ⟨#[10]⟩] W fun e w'=>e=.returned (.bool (s.data.toList.any (·==10)))∧W=w' from by
  have h:=Tryz.strings_Contains_one s 10 W
  rw[WO] at h
  refine h.mono ?_
  rintro e w' ⟨rfl,rfl⟩
  exact⟨rfl,rfl⟩))
 generalize s.data.toList.any (·==10)=nl at *
 have Htx:=ae (fun W=>aat s W)
 obtain⟨w1,Hw1⟩:∃ w1,Hid (w1=w.alloc (.cells #[.int .i64 2,.int .i64 n,.string s,.string name,.string src,.slice A m c] 55)):=⟨_,rfl⟩
 have hb1:Below w.heap.size w w1:=by rw[Hw1.out];exact(Below.refl _ _).alloc (Nat.le_refl _) _
 have hk1:af w1 w.heap.size 55 #[.int .i64 2,.int .i64 n,.string s,.string name,.string src,.slice A m c]:=by rw[Hw1.out];exact af.laid _ _ _
 have hr1:Wrote g w w1:=Wrote.of_below (Nat.le_of_lt h.lt) hb1
 have Hx:=ae (fun W (hW:Wrote g w1 W)=>lX (hW.2.2 _ _ _ (by decide) (by decide) hk1))
 have Hvt:=ae (fun W (hW:Wrote g w W)=>Qb s W hs (hm.below hg hW.1))
 have bU:=h.below hb1
 have iG:=ae hr1
 obtain⟨x0,x1,x2,x3,x4,x5,xl⟩:=Hx.out _ (Wrote.refl _ _)
 have Hlen:=ae hlen
 clear hk1 h hlen hb1 hm hs hr1
 go_enter Tryz.func29,Tryz.ntmps29
 go_upto_region 1 with (fail)
 rw[← Hw1.out]
 go_wp2_with (go_at_call 62;refine(EH.out _).mono ?_)
 rintro e' w2 ⟨rfl,hb2⟩
 have hr2:Wrote g w1 w2:=Wrote.of_below (Nat.le_of_lt bU.lt) hb2
 have bI:=bU.below hb2
 obtain⟨y0,y1,y2,y3,y4,y5,yl⟩:=Hx.out _ hr2
 obtain⟨b1,b2,b3⟩:=bI.brk
 clear x0 x1 x2 x3 x4 x5 bU hb2
 have akn:=ae bI
 have gm:=ae hr2
 clear bI hr2
 cases br
 ·go_upto_region 13 with (go_at_call 63;refine(Hcn.out _).mono ?_;rintro e' w3 ⟨rfl,rfl⟩)
  have hst:=akn.out.store nl
  generalize w2.setCell ⟨g,2,none⟩ (.bool nl)=w3 at *
  obtain⟨bH,hr3⟩:=hst
  have uB:=gm.out.trans hr3
  obtain⟨x0,x1,x2,x3,x4,x5,xl⟩:=Hx.out _ uB
  have jm:=ae uB
  have aaz:=ae bH
  clear y0 y1 y2 y3 y4 y5 b1 b2 b3 hr3 uB bH yl
  go_wp2_with (go_at_call 65;refine(Htx.out _).mono ?_)
  rintro e' w4 ⟨rfl,hb4⟩
  have hr4:=iG.out.trans (jm.out.trans (Wrote.of_below (Nat.le_of_lt aaz.out.lt) hb4))
  have bu:=aaz.out.below hb4
  have Hv4:=ae (Hvt.out _ hr4)
  have jg:=ae (And.intro bu hr4)
  clear hb4 hr4 bu x0 x1 x2 x3 x4 x5 xl
  go_wp2_with (go_at_call 64;refine Hv4.out.mono ?_)
  rintro e' w5 ⟨rfl,hb5⟩
  have H5:=ae (And.intro (jg.out.1.below hb5) (jg.out.2.trans (Wrote.of_below (Nat.le_of_lt jg.out.1.lt) hb5)))
  clear hb5
  go_wp2_with (fail)
  refine(aF g 1 t nl [⟨(iH s).toArray⟩] _ H5.out.1 rfl (by decide) (by simpa [aB] using Hlen.out)).mono ?_
  rintro e' w6 ⟨rfl,eG,lI⟩
  have e6:t++aB [⟨(iH s).toArray⟩]=t++iH s:=by simp[aB]
  rw[e6] at eG
  have H6:=ae (And.intro eG (H5.out.2.trans lI))
  clear eG lI
  go_wp2
  go_end0
  exact⟨rfl,by simpa using H6.out.1,H6.out.2⟩
 ·go_upto_region 13 with (fail)
  have hst:=akn.out.store true
  generalize w2.setCell ⟨g,2,none⟩ (.bool true)=w3 at *
  obtain⟨bH,hr3⟩:=hst
  have uB:=gm.out.trans hr3
  obtain⟨x0,x1,x2,x3,x4,x5,xl⟩:=Hx.out _ uB
  have jm:=ae uB
  have aaz:=ae bH
  clear y0 y1 y2 y3 y4 y5 b1 b2 b3 hr3 uB bH yl
  go_wp2_with (go_at_call 65;refine(Htx.out _).mono ?_)
  rintro e' w4 ⟨rfl,hb4⟩
  have hr4:=iG.out.trans (jm.out.trans (Wrote.of_below (Nat.le_of_lt aaz.out.lt) hb4))
  have bu:=aaz.out.below hb4
  have Hv4:=ae (Hvt.out _ hr4)
  have jg:=ae (And.intro bu hr4)
  clear hb4 hr4 bu x0 x1 x2 x3 x4 x5 xl
  go_wp2_with (go_at_call 64;refine Hv4.out.mono ?_)
  rintro e' w5 ⟨rfl,hb5⟩
  have H5:=ae (And.intro (jg.out.1.below hb5) (jg.out.2.trans (Wrote.of_below (Nat.le_of_lt jg.out.1.lt) hb5)))
  clear hb5
  go_wp2_with (fail)
  refine(aF g 1 t true [⟨(iH s).toArray⟩] _ H5.out.1 rfl (by decide) (by simpa [aB] using Hlen.out)).mono ?_
  rintro e' w6 ⟨rfl,eG,lI⟩
  have e6:t++aB [⟨(iH s).toArray⟩]=t++iH s:=by simp[aB]
  rw[e6] at eG
  have H6:=ae (And.intro eG (H5.out.2.trans lI))
  clear eG lI
  go_wp2
  go_end0
  exact⟨rfl,by simpa using H6.out.1,H6.out.2⟩
def Six (w:World) (b o:Nat) (e:Ex) (A:Option Addr) (m c:Nat):Prop:=w.cell? ⟨b,o,none⟩=some (.int .i64 e.op)∧w.cell? ⟨b,o+1,none⟩=some (.int .i64 e.n)∧w.cell? ⟨b,o+2,none⟩=some (.string e.s)∧w.cell? ⟨b,o+3,none⟩=some (.string e.name)∧w.cell? ⟨b,o+4,none⟩=some (.string e.src)∧w.cell? ⟨b,o+5,none⟩=some (.slice A m c)
theorem Six.wrote {w w':World} {g b o:Nat} {e:Ex} {A:Option Addr} {m c:Nat} (h:Six w b o e A m c) (hb:b<g) (hw:Wrote g w w'):Six w' b o e A m c:=by
 obtain⟨h0,h1,h2,h3,h4,h5⟩:=h
 exact⟨(hw.1.cell (p:=⟨b,o,none⟩) hb).trans h0,(hw.1.cell (p:=⟨b,o+1,none⟩) hb).trans h1,(hw.1.cell (p:=⟨b,o+2,none⟩) hb).trans h2,(hw.1.cell (p:=⟨b,o+3,none⟩) hb).trans h3,(hw.1.cell (p:=⟨b,o+4,none⟩) hb).trans h4,(hw.1.cell (p:=⟨b,o+5,none⟩) hb).trans h5⟩
def rowOf (e:Ex) (A:Option Addr) (m c:Nat):List Value:=[.int .i64 e.op,.int .i64 e.n,.string e.s,.string e.name,.string e.src,.slice A m c]
theorem args_at {F:Nat→Prop} {d:Nat} {w:World} {row:List Value} {op n:Int} {s name src:ByteArray} {args:List Ex} (h:aC F (d+1) w row (.mk op n s name src args)) :
  ∃ A c,row=[.int .i64 op,.int .i64 n,.string s,.string name,.string src,.slice A args.length c]∧args.length≤c∧c≤9223372036854775807∧(args≠[]→∃ b o,A=some ⟨b,o,none⟩∧F b∧b<w.heap.size∧∀ k a,args[k]?=some a→∃ A2 m2 c2,Six w b (o+k*6) a A2 m2 c2∧aC F d w (rowOf a A2 m2 c2) a):=by
 obtain⟨_,_,_,_,_,A,m,c,rfl,hl⟩:=h.open_
 have hm:args.length=m:=ai.len hl
 subst hm
 refine⟨A,c,rfl,ai.n_c hl,ai.amw hl,fun hne=>?_⟩
 have h0:0<args.length:=List.length_pos_iff.2 hne
 obtain⟨b,o,r,x,hA,hb,hF,_⟩:=ai.get hl h0
 refine⟨b,o,hA,hF,hb,fun k a hk=>?_⟩
 obtain⟨hk2,_⟩:=List.getElem?_eq_some_iff.1 hk
 obtain⟨b2,o2,r2,x2,hA2,hb2,hF2,hx2,hl2,hp2,hc2⟩:=ai.get hl hk2
 rw[hA] at hA2
 injection hA2 with hA2
 injection hA2 with e1 e2
 subst e1 e2
 rw[show (Ex.mk op n s name src args).args=args from rfl] at hx2
 rw[hk] at hx2
 injection hx2 with hx2
 subst hx2
 obtain⟨A2,m2,c2,hr⟩:=wP hp2
 subst hr
 exact⟨A2,m2,c2,⟨by simpa using hc2 0 _ rfl,hc2 1 _ rfl,hc2 2 _ rfl,hc2 3 _ rfl,hc2 4 _ rfl,hc2 5 _ rfl⟩,hp2⟩
def Does (g:Nat) (w:World) (f:FuncId) (args:Array Value) (T:List UInt8) (B:Bool):Prop:=∀ W t br,Wrote g w W→bz g t br W→t.length+T.length≤1000000000→Calls Tryz.prog f args W fun e' w'=>e'=.returned (.tuple #[])∧bz g (t++T) (br||B) w'∧Wrote g W w'
theorem aaA (op n lv lf:Int) (sg:List UInt8) (s name src:ByteArray) (b o c:Nat) (a1 a2:Ex) (A1 A2:Option Addr) (m1 c1 m2 c2:Nat) (T1 T2:List UInt8) (B1 B2:Bool) (g:Nat) (t:List UInt8) (br:Bool) (w:World) (h6:6≤op) (h18:op≤18) (hsg:jQ op=sg) (hlv:iM op=lv) (hlf:lf=if lv=4 then lv+1 else lv) (hl1:1≤lv) (hl2:lv≤8) (h:bz g t br w) (hbg:b<g)
  (hS1:Six w b o a1 A1 m1 c1) (hS2:Six w b (o+6) a2 A2 m2 c2)
  (hD1:Does g w 67 #[.pointer (some ⟨g,0,none⟩),.agg (rowOf a1 A1 m1 c1).toArray,.int .i64 lf] T1 B1)
  (hD2:Does g w 67 #[.pointer (some ⟨g,0,none⟩),.agg (rowOf a2 A2 m2 c2).toArray,.int .i64 (lv+1)] T2 B2)
  (hlen:t.length+(T1++([32]++sg++[32])++T2).length≤1000000000) :
  Calls Tryz.prog 29 #[.pointer (some ⟨g,0,none⟩),.agg #[.int .i64 op,.int .i64 n,.string s,.string name,.string src,.slice (some ⟨b,o,none⟩) 2 c]] w fun e' w'=>e'=.returned (.tuple #[])∧bz g (t++(T1++([32]++sg++[32])++T2)) (br||(B1||B2)) w'∧Wrote g w w':=by
 have EH:=ae (fun W=>(show Calls Tryz.prog 62 #[.int .i64 op] W fun e w'=>e=.returned (.tuple #[.string ⟨sg.toArray⟩,.int .i64 lv])∧Below W.heap.size W w' from by
  have h:=jS op W (by omega) (by omega)
  unfold IQ at h
  rw[hsg,hlv] at h
  exact h))
 clear hsg hlv
 have n1:(op==1)=false:=by simp;omega
 have n2:(op==2)=false:=by simp;omega
 have n3:(op==3)=false:=by simp;omega
 have n4:(op==4)=false:=by simp;omega
 have n5:(op==5)=false:=by simp;omega
 have n19:(op==19)=false:=by simp;omega
 have n20:(op==20)=false:=by simp;omega
 have n21:(op==21)=false:=by simp;omega
 have n22:(op==22)=false:=by simp;omega
 have n23:(op==23)=false:=by simp;omega
 have n24:(op==24)=false:=by simp;omega
 clear h6 h18
 obtain⟨w1,Hw1⟩:∃ w1,Hid (w1=w.alloc (.cells #[.int .i64 op,.int .i64 n,.string s,.string name,.string src,.slice (some ⟨b,o,none⟩) 2 c] 55)):=⟨_,rfl⟩
 have hb1:Below w.heap.size w w1:=by rw[Hw1.out];exact(Below.refl _ _).alloc (Nat.le_refl _) _
 have hk1:af w1 w.heap.size 55 #[.int .i64 op,.int .i64 n,.string s,.string name,.string src,.slice (some ⟨b,o,none⟩) 2 c]:=by rw[Hw1.out];exact af.laid _ _ _
 have hr1:Wrote g w w1:=Wrote.of_below (Nat.le_of_lt h.lt) hb1
 have Hx:=ae (fun W (hW:Wrote g w1 W)=>lX (hW.2.2 _ _ _ (by decide) (by decide) hk1))
 have bU:=h.below hb1
 have iG:=ae hr1
 have HS1:=ae (fun W (hW:Wrote g w W)=>hS1.wrote hbg hW)
 have HS2:=ae (fun W (hW:Wrote g w W)=>hS2.wrote hbg hW)
 have HD1:=ae hD1
 have HD2:=ae hD2
 have Dv:=ae hbg
 obtain⟨x0,x1,x2,x3,x4,x5,xl⟩:=Hx.out _ (Wrote.refl _ _)
 have Hlen:=ae hlen
 clear hk1 h hlen hb1 hr1 hS1 hS2 hD1 hD2 hbg
 rcases Classical.em (lv=4) with h4|h4
 ·rw[if_pos h4] at hlf
  have q4:(lv==4)=true:=by simp[h4]
  subst hlf
  clear h4
  go_enter Tryz.func29,Tryz.ntmps29
  go_upto_region 1 with (fail)
  rw[← Hw1.out]
  go_wp2_with (go_at_call 62;refine(EH.out _).mono ?_)
  rintro e' w2 ⟨rfl,hb2⟩
  have hr2:Wrote g w1 w2:=Wrote.of_below (Nat.le_of_lt bU.lt) hb2
  have bI:=bU.below hb2
  obtain⟨y0,y1,y2,y3,y4,y5,yl⟩:=Hx.out _ hr2
  obtain⟨z0,z1,z2,z3,z4,z5⟩:=HS1.out _ (iG.out.trans hr2)
  have hbl:b<w2.heap.size:=by have:=Dv.out;have:=bI.lt;omega
  clear x0 x1 x2 x3 x4 x5 xl bU hb2
  go_wp2_with (fail)
  refine(HD1.out _ t br (iG.out.trans hr2) bI (by
   have:=Hlen.out
   simp only[List.length_append,List.length_cons,List.length_nil] at this
   omega)).mono ?_
  rintro e' w3 ⟨rfl,bH,hr3⟩
  have uB:=hr2.trans hr3
  have jm:=ae uB
  obtain⟨x0,x1,x2,x3,x4,x5,xl⟩:=Hx.out _ uB
  clear y0 y1 y2 y3 y4 y5 yl z0 z1 z2 z3 z4 z5 hbl bI hr2 hr3 uB
  go_wp2_with (fail)
  refine(aF g 3 _ _ [⟨#[32]⟩,⟨sg.toArray⟩,⟨#[32]⟩] _ bH rfl (by decide) (by
   have:=Hlen.out
   simp only[List.length_append,List.length_cons,List.length_nil] at this
   simp only[aB,List.map_cons,List.map_nil,List.flatten_cons,List.flatten_nil,List.length_append,List.length_cons,List.length_nil]
   omega)).mono ?_
  rintro e' w4 ⟨rfl,bu,hr4⟩
  have e4:t++T1++aB [⟨#[32]⟩,⟨sg.toArray⟩,⟨#[32]⟩]=t++(T1++([32]++sg++[32])):=by simp[aB]
  rw[e4] at bu
  have pV:=jm.out.trans hr4
  have jg:=ae pV
  obtain⟨y0,y1,y2,y3,y4,y5,yl⟩:=Hx.out _ pV
  obtain⟨z0,z1,z2,z3,z4,z5⟩:=HS2.out _ (iG.out.trans pV)
  have hbl:b<w4.heap.size:=by have:=Dv.out;have:=bu.lt;omega
  clear x0 x1 x2 x3 x4 x5 xl bH hr4 pV e4
  go_wp2_with (fail)
  refine(HD2.out _ _ _ (iG.out.trans jg.out) bu (by
   have:=Hlen.out
   simp only[List.length_append,List.length_cons,List.length_nil] at this ⊢
   omega)).mono ?_
  rintro e' w5 ⟨rfl,di,jf⟩
  have e5:t++(T1++([32]++sg++[32]))++T2=t++(T1++([32]++sg++[32])++T2):=by simp
  rw[e5,Bool.or_assoc] at di
  have H5:=ae (And.intro di (iG.out.trans (jg.out.trans jf)))
  clear di jf e5 y0 y1 y2 y3 y4 y5 yl z0 z1 z2 z3 z4 z5 hbl bu
  go_wp2
  go_end0
  exact⟨rfl,H5.out.1,H5.out.2⟩
 ·rw[if_neg h4] at hlf
  have q4:(lv==4)=false:=by simp[h4]
  subst hlf
  clear h4
  go_enter Tryz.func29,Tryz.ntmps29
  go_upto_region 1 with (fail)
  rw[← Hw1.out]
  go_wp2_with (go_at_call 62;refine(EH.out _).mono ?_)
  rintro e' w2 ⟨rfl,hb2⟩
  have hr2:Wrote g w1 w2:=Wrote.of_below (Nat.le_of_lt bU.lt) hb2
  have bI:=bU.below hb2
  obtain⟨y0,y1,y2,y3,y4,y5,yl⟩:=Hx.out _ hr2
  obtain⟨z0,z1,z2,z3,z4,z5⟩:=HS1.out _ (iG.out.trans hr2)
  have hbl:b<w2.heap.size:=by have:=Dv.out;have:=bI.lt;omega
  clear x0 x1 x2 x3 x4 x5 xl bU hb2
  go_wp2_with (fail)
  refine(HD1.out _ t br (iG.out.trans hr2) bI (by
   have:=Hlen.out
   simp only[List.length_append,List.length_cons,List.length_nil] at this
   omega)).mono ?_
  rintro e' w3 ⟨rfl,bH,hr3⟩
  have uB:=hr2.trans hr3
  have jm:=ae uB
  obtain⟨x0,x1,x2,x3,x4,x5,xl⟩:=Hx.out _ uB
  clear y0 y1 y2 y3 y4 y5 yl z0 z1 z2 z3 z4 z5 hbl bI hr2 hr3 uB
  go_wp2_with (fail)
  refine(aF g 3 _ _ [⟨#[32]⟩,⟨sg.toArray⟩,⟨#[32]⟩] _ bH rfl (by decide) (by
   have:=Hlen.out
   simp only[List.length_append,List.length_cons,List.length_nil] at this
   simp only[aB,List.map_cons,List.map_nil,List.flatten_cons,List.flatten_nil,List.length_append,List.length_cons,List.length_nil]
   omega)).mono ?_
  rintro e' w4 ⟨rfl,bu,hr4⟩
  have e4:t++T1++aB [⟨#[32]⟩,⟨sg.toArray⟩,⟨#[32]⟩]=t++(T1++([32]++sg++[32])):=by simp[aB]
  rw[e4] at bu
  have pV:=jm.out.trans hr4
  have jg:=ae pV
  obtain⟨y0,y1,y2,y3,y4,y5,yl⟩:=Hx.out _ pV
  obtain⟨z0,z1,z2,z3,z4,z5⟩:=HS2.out _ (iG.out.trans pV)
  have hbl:b<w4.heap.size:=by have:=Dv.out;have:=bu.lt;omega
  clear x0 x1 x2 x3 x4 x5 xl bH hr4 pV e4
  go_wp2_with (fail)
  refine(HD2.out _ _ _ (iG.out.trans jg.out) bu (by
   have:=Hlen.out
   simp only[List.length_append,List.length_cons,List.length_nil] at this ⊢
   omega)).mono ?_
  rintro e' w5 ⟨rfl,di,jf⟩
  have e5:t++(T1++([32]++sg++[32]))++T2=t++(T1++([32]++sg++[32])++T2):=by simp
  rw[e5,Bool.or_assoc] at di
  have H5:=ae (And.intro di (iG.out.trans (jg.out.trans jf)))
  clear di jf e5 y0 y1 y2 y3 y4 y5 yl z0 z1 z2 z3 z4 z5 hbl bu
  go_wp2
  go_end0
  exact⟨rfl,H5.out.1,H5.out.2⟩
theorem aaB (op n lv:Int) (sg:List UInt8) (s name src:ByteArray) (b o c:Nat) (a1:Ex) (A1:Option Addr) (m1 c1:Nat) (T1:List UInt8) (B1:Bool) (g:Nat) (t:List UInt8) (br:Bool) (w:World) (hop:op=19∨op=20) (hsg:jQ op=sg) (hlv:iM op=lv) (h:bz g t br w) (hbg:b<g)
  (hS1:Six w b o a1 A1 m1 c1)
  (hD1:Does g w 67 #[.pointer (some ⟨g,0,none⟩),.agg (rowOf a1 A1 m1 c1).toArray,.int .i64 lv] T1 B1)
  (hlen:t.length+(sg++T1).length≤1000000000) :
  Calls Tryz.prog 29 #[.pointer (some ⟨g,0,none⟩),.agg #[.int .i64 op,.int .i64 n,.string s,.string name,.string src,.slice (some ⟨b,o,none⟩) 1 c]] w fun e' w'=>e'=.returned (.tuple #[])∧bz g (t++(sg++T1)) (br||B1) w'∧Wrote g w w':=by
 have EH:=ae (fun W=>(show Calls Tryz.prog 62 #[.int .i64 op] W fun e w'=>e=.returned (.tuple #[.string ⟨sg.toArray⟩,.int .i64 lv])∧Below W.heap.size W w' from by
  have h:=jS op W (by omega) (by omega)
  unfold IQ at h
  rw[hsg,hlv] at h
  exact h))
 clear hsg hlv
 obtain⟨w1,Hw1⟩:∃ w1,Hid (w1=w.alloc (.cells #[.int .i64 op,.int .i64 n,.string s,.string name,.string src,.slice (some ⟨b,o,none⟩) 1 c] 55)):=⟨_,rfl⟩
 have hb1:Below w.heap.size w w1:=by rw[Hw1.out];exact(Below.refl _ _).alloc (Nat.le_refl _) _
 have hk1:af w1 w.heap.size 55 #[.int .i64 op,.int .i64 n,.string s,.string name,.string src,.slice (some ⟨b,o,none⟩) 1 c]:=by rw[Hw1.out];exact af.laid _ _ _
 have hr1:Wrote g w w1:=Wrote.of_below (Nat.le_of_lt h.lt) hb1
 have Hx:=ae (fun W (hW:Wrote g w1 W)=>lX (hW.2.2 _ _ _ (by decide) (by decide) hk1))
 have bU:=h.below hb1
 have iG:=ae hr1
 have HS1:=ae (fun W (hW:Wrote g w W)=>hS1.wrote hbg hW)
 have HD1:=ae hD1
 have Dv:=ae hbg
 have wG:=ae bU.lt
 obtain⟨x0,x1,x2,x3,x4,x5,xl⟩:=Hx.out _ (Wrote.refl _ _)
 have Hlen:=ae hlen
 clear hk1 h hlen hb1 hr1 hS1 hD1 hbg
 rcases hop with rfl|rfl
 all_goals
  go_enter Tryz.func29,Tryz.ntmps29
  go_upto_region 1 with (fail)
  rw[← Hw1.out]
  go_wp2_with (go_at_call 62;refine(EH.out _).mono ?_)
  rintro e' w2 ⟨rfl,hb2⟩
  have hr2:Wrote g w1 w2:=Wrote.of_below (Nat.le_of_lt bU.lt) hb2
  have bI:=bU.below hb2
  obtain⟨y0,y1,y2,y3,y4,y5,yl⟩:=Hx.out _ hr2
  clear x0 x1 x2 x3 x4 x5 xl bU hb2
  go_wp2_with (fail)
  refine(aF g 1 _ _ [⟨sg.toArray⟩] _ bI rfl (by decide) (by have h9:=Hlen.out;simp[aB] at h9 ⊢;omega)).mono ?_
  rintro e' w4 ⟨rfl,bu,hr4⟩
  have e4:t++aB [⟨sg.toArray⟩]=t++sg:=by simp[aB]
  rw[e4] at bu
  have pV:=hr2.trans hr4
  have jg:=ae pV
  obtain⟨x0,x1,x2,x3,x4,x5,xl⟩:=Hx.out _ pV
  obtain⟨z0,z1,z2,z3,z4,z5⟩:=HS1.out _ (iG.out.trans pV)
  have hbl:b<w4.heap.size:=by have:=Dv.out;have:=bu.lt;omega
  clear y0 y1 y2 y3 y4 y5 yl bI hr2 hr4 pV e4
  go_wp2_with (fail)
  refine(HD1.out _ _ _ (iG.out.trans jg.out) bu (by have h9:=Hlen.out;simp at h9 ⊢;omega)).mono ?_
  rintro e' w5 ⟨rfl,di,jf⟩
  rw[List.append_assoc] at di
  have H5:=ae (And.intro di (iG.out.trans (jg.out.trans jf)))
  clear di jf x0 x1 x2 x3 x4 x5 xl z0 z1 z2 z3 z4 z5 hbl bu
  go_wp2
  go_end0
  exact⟨rfl,H5.out.1,H5.out.2⟩
theorem Tn (op n lv:Int) (sg:List UInt8) (s name src:ByteArray) (b o c:Nat) (a1:Ex) (A1:Option Addr) (m1 c1:Nat) (T1:List UInt8) (B1:Bool) (g:Nat) (t:List UInt8) (br:Bool) (w:World) (hop:op=21) (hsg:jQ op=sg) (hlv:iM op=lv) (h:bz g t br w) (hbg:b<g)
  (hS1:Six w b o a1 A1 m1 c1)
  (hD1:Does g w 68 #[.pointer (some ⟨g,0,none⟩),.string name,.string src,.agg (rowOf a1 A1 m1 c1).toArray] T1 B1)
  (hlen:t.length+(sg++[40]++T1++[41]).length≤1000000000) :
  Calls Tryz.prog 29 #[.pointer (some ⟨g,0,none⟩),.agg #[.int .i64 op,.int .i64 n,.string s,.string name,.string src,.slice (some ⟨b,o,none⟩) 1 c]] w fun e' w'=>e'=.returned (.tuple #[])∧bz g (t++(sg++[40]++T1++[41])) (br||B1) w'∧Wrote g w w':=by
 have EH:=ae (fun W=>(show Calls Tryz.prog 62 #[.int .i64 op] W fun e w'=>e=.returned (.tuple #[.string ⟨sg.toArray⟩,.int .i64 lv])∧Below W.heap.size W w' from by
  have h:=jS op W (by omega) (by omega)
  unfold IQ at h
  rw[hsg,hlv] at h
  exact h))
 clear hsg hlv
 obtain⟨w1,Hw1⟩:∃ w1,Hid (w1=w.alloc (.cells #[.int .i64 op,.int .i64 n,.string s,.string name,.string src,.slice (some ⟨b,o,none⟩) 1 c] 55)):=⟨_,rfl⟩
 have hb1:Below w.heap.size w w1:=by rw[Hw1.out];exact(Below.refl _ _).alloc (Nat.le_refl _) _
 have hk1:af w1 w.heap.size 55 #[.int .i64 op,.int .i64 n,.string s,.string name,.string src,.slice (some ⟨b,o,none⟩) 1 c]:=by rw[Hw1.out];exact af.laid _ _ _
 have hr1:Wrote g w w1:=Wrote.of_below (Nat.le_of_lt h.lt) hb1
 have Hx:=ae (fun W (hW:Wrote g w1 W)=>lX (hW.2.2 _ _ _ (by decide) (by decide) hk1))
 have bU:=h.below hb1
 have iG:=ae hr1
 have HS1:=ae (fun W (hW:Wrote g w W)=>hS1.wrote hbg hW)
 have HD1:=ae hD1
 have Dv:=ae hbg
 have wG:=ae bU.lt
 obtain⟨x0,x1,x2,x3,x4,x5,xl⟩:=Hx.out _ (Wrote.refl _ _)
 have Hlen:=ae hlen
 clear hk1 h hlen hb1 hr1 hS1 hD1 hbg
 subst hop
 all_goals
  go_enter Tryz.func29,Tryz.ntmps29
  go_upto_region 1 with (fail)
  rw[← Hw1.out]
  go_wp2_with (go_at_call 62;refine(EH.out _).mono ?_)
  rintro e' w2 ⟨rfl,hb2⟩
  have hr2:Wrote g w1 w2:=Wrote.of_below (Nat.le_of_lt bU.lt) hb2
  have bI:=bU.below hb2
  obtain⟨y0,y1,y2,y3,y4,y5,yl⟩:=Hx.out _ hr2
  clear x0 x1 x2 x3 x4 x5 xl bU hb2
  go_wp2_with (fail)
  refine(aF g 2 _ _ [⟨sg.toArray⟩,⟨#[40]⟩] _ bI rfl (by decide) (by have h9:=Hlen.out;simp[aB] at h9 ⊢;omega)).mono ?_
  rintro e' w4 ⟨rfl,bu,hr4⟩
  have e4:t++aB [⟨sg.toArray⟩,⟨#[40]⟩]=t++(sg++[40]):=by simp[aB]
  rw[e4] at bu
  have pV:=hr2.trans hr4
  have hbd:=(Below.refl w4.heap.size w4).drew
  have jf:=pV.trans (Wrote.of_below (Nat.le_of_lt bu.lt) hbd)
  have di:=bu.below hbd
  obtain⟨x0,x1,x2,x3,x4,x5,xl⟩:=Hx.out _ pV
  obtain⟨z0,z1,z2,z3,z4,z5⟩:=HS1.out _ (iG.out.trans pV)
  have hbl:b<w4.heap.size:=by have:=Dv.out;have:=bu.lt;omega
  have Hc5:=ae (HD1.out _ _ _ (iG.out.trans jf) di (by have h9:=Hlen.out;simp at h9 ⊢;omega))
  have lY:=ae jf
  clear y0 y1 y2 y3 y4 y5 yl bI hr2 hr4 pV e4 bu hbd jf di
  go_upto_region 29 with (fail)
  go_still_tail 9,(by kernel_rfl)
  change wpList _ _ _ _ _ w4.drew
  generalize w4.drew=w5 at *
  clear x0 x1 x2 x3 x4 x5 xl z0 z1 z2 z3 z4 z5 hbl
  obtain⟨x0,x1,x2,x3,x4,x5,xl⟩:=Hx.out _ lY.out
  obtain⟨z0,z1,z2,z3,z4,z5⟩:=HS1.out _ (iG.out.trans lY.out)
  have hbl:b<w5.heap.size:=by have:=Dv.out;have:=lY.out.1.size;have:=wG.out;omega
  go_wp2_with (fail)
  refine Hc5.out.mono ?_
  rintro e' w6 ⟨rfl,eG,lI⟩
  have Tq:=lY.out.trans lI
  have Aj:=ae Tq
  have ahb:=ae eG
  clear x0 x1 x2 x3 x4 x5 xl z0 z1 z2 z3 z4 z5 hbl
  obtain⟨x0,x1,x2,x3,x4,x5,xl⟩:=Hx.out _ Tq
  clear lI Tq eG
  go_wp2_with (fail)
  refine(aF g 1 _ _ [⟨#[41]⟩] _ ahb.out rfl (by decide) (by have h9:=Hlen.out;simp[aB] at h9 ⊢;omega)).mono ?_
  rintro e' w9 ⟨rfl,aaC,YD⟩
  have H9:=ae (And.intro aaC (iG.out.trans (Aj.out.trans YD)))
  clear aaC YD x0 x1 x2 x3 x4 x5 xl
  go_wp2
  go_end0
  refine⟨rfl,?_,H9.out.2⟩
  have h9:=H9.out.1
  simpa [aB,Bool.or_assoc] using h9
theorem WR (op n lv:Int) (sg:List UInt8) (s name src:ByteArray) (b o c:Nat) (a1 a2:Ex) (A1 A2:Option Addr) (m1 c1 m2 c2:Nat) (T1 T2:List UInt8) (B1 B2:Bool) (g:Nat) (t:List UInt8) (br:Bool) (w:World) (hop:op=22∨op=23∨op=24) (hsg:jQ op=sg) (hlv:iM op=lv) (h:bz g t br w) (hbg:b<g)
  (hS1:Six w b o a1 A1 m1 c1)
  (hD1:Does g w 68 #[.pointer (some ⟨g,0,none⟩),.string name,.string src,.agg (rowOf a1 A1 m1 c1).toArray] T1 B1)
  (hS2:Six w b (o+6) a2 A2 m2 c2)
  (hD2:Does g w 29 #[.pointer (some ⟨g,0,none⟩),.agg (rowOf a2 A2 m2 c2).toArray] T2 B2)
  (hlen:t.length+(sg++[40]++T1++([58,32]++T2)++[41]).length≤1000000000) :
  Calls Tryz.prog 29 #[.pointer (some ⟨g,0,none⟩),.agg #[.int .i64 op,.int .i64 n,.string s,.string name,.string src,.slice (some ⟨b,o,none⟩) 2 c]] w fun e' w'=>e'=.returned (.tuple #[])∧bz g (t++(sg++[40]++T1++([58,32]++T2)++[41])) (br||(B1||B2)) w'∧Wrote g w w':=by
 have EH:=ae (fun W=>(show Calls Tryz.prog 62 #[.int .i64 op] W fun e w'=>e=.returned (.tuple #[.string ⟨sg.toArray⟩,.int .i64 lv])∧Below W.heap.size W w' from by
  have h:=jS op W (by omega) (by omega)
  unfold IQ at h
  rw[hsg,hlv] at h
  exact h))
 clear hsg hlv
 obtain⟨w1,Hw1⟩:∃ w1,Hid (w1=w.alloc (.cells #[.int .i64 op,.int .i64 n,.string s,.string name,.string src,.slice (some ⟨b,o,none⟩) 2 c] 55)):=⟨_,rfl⟩
 have hb1:Below w.heap.size w w1:=by rw[Hw1.out];exact(Below.refl _ _).alloc (Nat.le_refl _) _
 have hk1:af w1 w.heap.size 55 #[.int .i64 op,.int .i64 n,.string s,.string name,.string src,.slice (some ⟨b,o,none⟩) 2 c]:=by rw[Hw1.out];exact af.laid _ _ _
 have hr1:Wrote g w w1:=Wrote.of_below (Nat.le_of_lt h.lt) hb1
 have Hx:=ae (fun W (hW:Wrote g w1 W)=>lX (hW.2.2 _ _ _ (by decide) (by decide) hk1))
 have bU:=h.below hb1
 have iG:=ae hr1
 have HS1:=ae (fun W (hW:Wrote g w W)=>hS1.wrote hbg hW)
 have HD1:=ae hD1
 have HS2:=ae (fun W (hW:Wrote g w W)=>hS2.wrote hbg hW)
 have HD2:=ae hD2
 have Dv:=ae hbg
 have wG:=ae bU.lt
 obtain⟨x0,x1,x2,x3,x4,x5,xl⟩:=Hx.out _ (Wrote.refl _ _)
 have Hlen:=ae hlen
 clear hk1 h hlen hb1 hr1 hS1 hD1 hbg hS2 hD2
 rcases hop with rfl|rfl|rfl
 all_goals
  go_enter Tryz.func29,Tryz.ntmps29
  go_upto_region 1 with (fail)
  rw[← Hw1.out]
  go_wp2_with (go_at_call 62;refine(EH.out _).mono ?_)
  rintro e' w2 ⟨rfl,hb2⟩
  have hr2:Wrote g w1 w2:=Wrote.of_below (Nat.le_of_lt bU.lt) hb2
  have bI:=bU.below hb2
  obtain⟨y0,y1,y2,y3,y4,y5,yl⟩:=Hx.out _ hr2
  clear x0 x1 x2 x3 x4 x5 xl bU hb2
  go_wp2_with (fail)
  refine(aF g 2 _ _ [⟨sg.toArray⟩,⟨#[40]⟩] _ bI rfl (by decide) (by have h9:=Hlen.out;simp[aB] at h9 ⊢;omega)).mono ?_
  rintro e' w4 ⟨rfl,bu,hr4⟩
  have e4:t++aB [⟨sg.toArray⟩,⟨#[40]⟩]=t++(sg++[40]):=by simp[aB]
  rw[e4] at bu
  have pV:=hr2.trans hr4
  have hbd:=(Below.refl w4.heap.size w4).drew
  have jf:=pV.trans (Wrote.of_below (Nat.le_of_lt bu.lt) hbd)
  have di:=bu.below hbd
  obtain⟨x0,x1,x2,x3,x4,x5,xl⟩:=Hx.out _ pV
  obtain⟨z0,z1,z2,z3,z4,z5⟩:=HS1.out _ (iG.out.trans pV)
  have hbl:b<w4.heap.size:=by have:=Dv.out;have:=bu.lt;omega
  have Hc5:=ae (HD1.out _ _ _ (iG.out.trans jf) di (by have h9:=Hlen.out;simp at h9 ⊢;omega))
  have lY:=ae jf
  clear y0 y1 y2 y3 y4 y5 yl bI hr2 hr4 pV e4 bu hbd jf di
  go_upto_region 29 with (fail)
  go_still_tail 9,(by kernel_rfl)
  change wpList _ _ _ _ _ w4.drew
  generalize w4.drew=w5 at *
  clear x0 x1 x2 x3 x4 x5 xl z0 z1 z2 z3 z4 z5 hbl
  obtain⟨x0,x1,x2,x3,x4,x5,xl⟩:=Hx.out _ lY.out
  obtain⟨z0,z1,z2,z3,z4,z5⟩:=HS1.out _ (iG.out.trans lY.out)
  have hbl:b<w5.heap.size:=by have:=Dv.out;have:=lY.out.1.size;have:=wG.out;omega
  go_wp2_with (fail)
  refine Hc5.out.mono ?_
  rintro e' w6 ⟨rfl,eG,lI⟩
  have Tq:=lY.out.trans lI
  have Aj:=ae Tq
  have ahb:=ae eG
  clear x0 x1 x2 x3 x4 x5 xl z0 z1 z2 z3 z4 z5 hbl
  obtain⟨x0,x1,x2,x3,x4,x5,xl⟩:=Hx.out _ Tq
  clear lI Tq eG
  go_wp2_with (fail)
  refine(aF g 1 _ _ [⟨#[58,32]⟩] _ ahb.out rfl (by decide) (by have h9:=Hlen.out;simp[aB] at h9 ⊢;omega)).mono ?_
  rintro e' w7 ⟨rfl,jo,rU⟩
  have aaD:=Aj.out.trans rU
  have NM:=ae aaD
  clear x0 x1 x2 x3 x4 x5 xl
  obtain⟨x0,x1,x2,x3,x4,x5,xl⟩:=Hx.out _ aaD
  obtain⟨z0,z1,z2,z3,z4,z5⟩:=HS2.out _ (iG.out.trans aaD)
  have hbl:b<w7.heap.size:=by have:=Dv.out;have:=jo.lt;omega
  have Hc8:=ae (HD2.out _ _ _ (iG.out.trans aaD) jo (by have h9:=Hlen.out;simp[aB] at h9 ⊢;omega))
  clear rU aaD jo
  go_wp2_with (fail)
  refine Hc8.out.mono ?_
  rintro e' w8 ⟨rfl,IV,VC⟩
  have Hr8:=ae (NM.out.trans VC)
  have am4:=ae IV
  clear x0 x1 x2 x3 x4 x5 xl z0 z1 z2 z3 z4 z5 hbl IV VC
  go_wp2_with (fail)
  refine(aF g 1 _ _ [⟨#[41]⟩] _ am4.out rfl (by decide) (by have h9:=Hlen.out;simp[aB] at h9 ⊢;omega)).mono ?_
  rintro e' w9 ⟨rfl,aaC,YD⟩
  have H9:=ae (And.intro aaC (iG.out.trans (Hr8.out.trans YD)))
  clear aaC YD
  go_wp2
  go_end0
  refine⟨rfl,?_,H9.out.2⟩
  have h9:=H9.out.1
  simpa [aB,Bool.or_assoc] using h9
theorem uY {F:Nat→Prop} {d g:Nat} {w:World} (hE:KF F d) {a:Ex} {A:Option Addr} {m c:Nat} (least:Int) (hx:aC F d w (rowOf a A m c) a) (hb:aA d a=true) (hF:∀ k,F k→k<g) (hm:dZ w) (hg:0<g) :
  Does g w 67 #[.pointer (some ⟨g,0,none⟩),.agg (rowOf a A m c).toArray,.int .i64 least] (tq least a.op (aY d a)) (zH d a) :=
 fun W t br hW h hl=>Tj F d hE a _ least g t br W (aC.wrote hx hF hW) hb hF h (hm.below hg hW.1) hg hl
theorem uC {F:Nat→Prop} {d g:Nat} {w:World} (hE:KF F d) {a:Ex} {A:Option Addr} {m c:Nat} (name src:ByteArray) (hx:aC F d w (rowOf a A m c) a) (hb:aA d a=true) (hF:∀ k,F k→k<g) (hm:dZ w) (hg:0<g) :
  Does g w 68 #[.pointer (some ⟨g,0,none⟩),.string name,.string src,.agg (rowOf a A m c).toArray] (kJ name src a.op a.n (aY d a)) (zH d a) :=
 fun W t br hW h hl=>adI F d hE a _ name src g t br W (aC.wrote hx hF hW) hb hF h (hm.below hg hW.1) hg hl
theorem KG {F:Nat→Prop} {d g:Nat} {w:World} (hE:KF F d) {a:Ex} {A:Option Addr} {m c:Nat} (hx:aC F d w (rowOf a A m c) a) (hb:aA d a=true) (hF:∀ k,F k→k<g) (hm:dZ w) (hg:0<g) :
  Does g w 29 #[.pointer (some ⟨g,0,none⟩),.agg (rowOf a A m c).toArray] (aY d a) (zH d a) :=
 fun W t br hW h hl=>hE a _ g t br W (aC.wrote hx hF hW) hb hF h (hm.below hg hW.1) hg hl
theorem Qc {op:Int} {args:List Ex} (h:iY op=args.length) (h6:6≤op) (h24:op≤24):(args.length=1∧(op=19∨op=20∨op=21))∨(args.length=2∧(op≤18∨op=22∨op=23∨op=24)):=by
 unfold iY at h
 rw[if_neg (by omega)] at h
 split at h
 ·right;omega
 ·split at h
  ·left;omega
  ·split at h
   ·left;omega
   ·rw[if_pos (by omega)] at h
    right;omega
theorem Tt {F:Nat→Prop} {d:Nat} {op n:Int} {s name src:ByteArray} {args:List Ex} {row:List Value} {g:Nat} {t:List UInt8} {br:Bool} {w:World} (hx:aC F (d+1) w row (.mk op n s name src args)) (hb:aA (d+1) (.mk op n s name src args)=true) (h:bz g t br w) (hm:dZ w) (hg:0<g) (hlen:t.length+(aY (d+1) (.mk op n s name src args)).length≤1000000000) (h5:op=1∨op=2∨op=3∨op=4∨op=5) :
  Calls Tryz.prog 29 #[.pointer (some ⟨g,0,none⟩),.agg row.toArray] w fun e' w'=>e'=.returned (.tuple #[])∧bz g (t++aY (d+1) (.mk op n s name src args)) (br||zH (d+1) (.mk op n s name src args)) w'∧Wrote g w w':=by
 obtain⟨ha,hf,_⟩:=xM hb
 obtain rfl:=adJ ha h5
 obtain⟨A,c,rfl,_,_,_⟩:=args_at hx
 obtain⟨_,hn,_⟩:=hx.open_
 have hn:okI n:=hn
 unfold okI at hn
 rw[MB] at hlen ⊢
 rw[age]
 rcases h5 with rfl|rfl|rfl|rfl|rfl
 ·have e:bT 1 n s name src=(decide (0≤n)&&noS s&&noS name&&noS src):=rfl
  rw[e] at hf
  simp only[Bool.and_eq_true,decide_eq_true_eq] at hf
  have h:=aaw n s name src A ([]:List Ex).length c g t br w h hf.1.1.1 hn.2 hlen
  simpa using h
 ·have e:bT 2 n s name src=(decide (s.size≤200)&&decide (n=0)&&noS name&&noS src):=rfl
  rw[e] at hf
  simp only[Bool.and_eq_true,decide_eq_true_eq] at hf
  have h:=WQ n s name src A ([]:List Ex).length c g t br w h hf.1.1.1 hm hg hlen
  simpa using h
 ·have e:bT 3 n s name src=((decide (n=0)||decide (n=1))&&noS s&&noS name&&noS src):=rfl
  rw[e] at hf
  simp only[Bool.and_eq_true,Bool.or_eq_true,decide_eq_true_eq] at hf
  rcases hf.1.1.1 with rfl|rfl
  ·have h:=Tm s name src A ([]:List Ex).length c g t br w h hlen
   simpa using h
  ·have h:=WN s name src A ([]:List Ex).length c g t br w h hlen
   simpa using h
 ·have h:=aax n s name src A ([]:List Ex).length c g t br w h hlen
  simpa using h
 ·have h:=aay n s name src A ([]:List Ex).length c g t br w h hlen
  simpa using h
theorem wQ:∀ (d:Nat) (F:Nat→Prop),KF F d:=by
 intro d
 induction d with
 | zero=>intro F e row g t br w hx;exact hx.elim
 | succ d ih =>
  intro F e row g t br w hx hb hF h hm hg hlen
  obtain⟨o1,o2⟩:=rQ hb
  obtain⟨op,n,s,name,src,args⟩:=e
  have o1:1≤op:=o1
  have o2:op≤24:=o2
  by_cases h5:op≤5
  ·exact Tt hx hb h hm hg hlen (by omega)
  ·obtain⟨ha,hf,hall⟩:=xM hb
   obtain⟨A,c,rfl,_,_,hat⟩:=args_at hx
   have hE:=ih F
   have hne:¬ op=2:=by omega
   rw[MB,if_neg (by omega),if_neg hne,if_neg (by omega),if_neg (by omega),if_neg (by omega)] at hlen ⊢
   rw[age,decide_eq_false hne,Bool.false_and,Bool.false_or]
   rcases Qc ha (by omega) o2 with ⟨hl,hop⟩|⟨hl,hop⟩
   ·obtain⟨a,rfl⟩:=List.length_eq_one_iff.1 hl
    obtain⟨b,o,rfl,FH,hbl,hget⟩:=hat (by simp)
    obtain⟨A1,m1,c1,hS1,hx1⟩:=hget 0 a rfl
    have hb1:=hall a (by simp)
    have hbg:=hF b FH
    have hS1:Six w b o a A1 m1 c1:=by simpa using hS1
    by_cases h20:op=19∨op=20
    ·simp only[if_pos h20] at hlen ⊢
     have h:=aaB op n (iM op) (jQ op) s name src b o c a A1 m1 c1 _ _ g t br w h20 rfl rfl h hbg hS1 (uY hE (iM op) hx1 hb1 hF hm hg) hlen
     simpa using h
    ·simp only[if_neg h20] at hlen ⊢
     have h21:op=21:=by omega
     subst h21
     have h:=Tn 21 n (iM 21) (jQ 21) s name src b o c a A1 m1 c1 _ _ g t br w rfl rfl rfl h hbg hS1 (uC hE name src hx1 hb1 hF hm hg) (by simpa using hlen)
     simpa using h
   ·obtain⟨a,a2,rfl⟩:∃ a a2,args=[a,a2]:=by
     rcases args with _|⟨a,_|⟨a2,_|⟨a3,r⟩⟩⟩<;>simp at hl
     exact⟨a,a2,rfl⟩
    obtain⟨b,o,rfl,FH,hbl,hget⟩:=hat (by simp)
    obtain⟨A1,m1,c1,hS1,hx1⟩:=hget 0 a rfl
    obtain⟨A2,m2,c2,hS2,hx2⟩:=hget 1 a2 rfl
    have hb1:=hall a (by simp)
    have hb2:=hall a2 (by simp)
    have hbg:=hF b FH
    have hS1:Six w b o a A1 m1 c1:=by simpa using hS1
    have hS2:Six w b (o+6) a2 A2 m2 c2:=by simpa using hS2
    have h19:¬ (op=19∨op=20):=by omega
    simp only[if_neg h19] at hlen ⊢
    by_cases h18:op≤18
    ·have h21:¬ 21≤op:=by omega
     simp only[if_neg h21] at hlen ⊢
     obtain⟨l1,l2⟩:=Vy (op:=op) (by omega) (by omega)
     have elf:(if iM op=4 then iM op+1 else iM op)=iM op+(if iM op=4 then 1 else 0):=by split<;>omega
     have h:=aaA op n (iM op) (iM op+if iM op=4 then 1 else 0) (jQ op) s name src b o c a a2 A1 A2 m1 c1 m2 c2 _ _ _ _ g t br w (by omega) h18 rfl rfl elf.symm l1 l2 h hbg hS1 hS2 (uY hE _ hx1 hb1 hF hm hg) (uY hE _ hx2 hb2 hF hm hg) hlen
     simpa using h
    ·have h21:21≤op:=by omega
     have am5:¬ op=21:=by omega
     simp only[if_pos h21,if_neg am5] at hlen ⊢
     have h:=WR op n (iM op) (jQ op) s name src b o c a a2 A1 A2 m1 c1 m2 c2 _ _ _ _ g t br w (by omega) rfl rfl h hbg hS1 (uC hE name src hx1 hb1 hF hm hg) hS2 (KG hE hx2 hb2 hF hm hg) hlen
     simpa using h
end Go.Proofs.YtjjfkhbajidmdaaGreatDoor
