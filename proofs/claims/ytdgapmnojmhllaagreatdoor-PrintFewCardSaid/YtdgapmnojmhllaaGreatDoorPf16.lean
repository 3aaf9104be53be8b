/- Parts of this proof, one behind the other: PrtJ, PrtK, PrtL. -/
import Derived.Test.YtdgapmnojmhllaaGreatDoorPf15
import Derived.StillTailTactics
set_option maxRecDepth 1000000
set_option maxHeartbeats 40000000
namespace Go.Proofs.YtdgapmnojmhllaaGreatDoor
open Go.RowKit Go.Afx
def Six (w:World) (b o:Nat) (e:Ex) (A:Option Addr) (m c:Nat):Prop:=w.cell? ⟨b,o,none⟩=some (.int .i64 e.op)∧w.cell? ⟨b,o+1,none⟩=some (.int .i64 e.n)∧w.cell? ⟨b,o+2,none⟩=some (.string e.s)∧w.cell? ⟨b,o+3,none⟩=some (.string e.name)∧w.cell? ⟨b,o+4,none⟩=some (.string e.src)∧w.cell? ⟨b,o+5,none⟩=some (.slice A m c)
theorem Six.wrote {w w':World} {g b o:Nat} {e:Ex} {A:Option Addr} {m c:Nat} (h:Six w b o e A m c) (hb:b<g) (hw:Wrote g w w'):Six w' b o e A m c:=by
 obtain⟨h0,h1,h2,h3,h4,h5⟩:=h
 exact⟨(hw.1.cell (p:=⟨b,o,none⟩) hb).trans h0,(hw.1.cell (p:=⟨b,o+1,none⟩) hb).trans h1,(hw.1.cell (p:=⟨b,o+2,none⟩) hb).trans h2,(hw.1.cell (p:=⟨b,o+3,none⟩) hb).trans h3,(hw.1.cell (p:=⟨b,o+4,none⟩) hb).trans h4,(hw.1.cell (p:=⟨b,o+5,none⟩) hb).trans h5⟩
def rowOf (e:Ex) (A:Option Addr) (m c:Nat):List Value:=[.int .i64 e.op,.int .i64 e.n,.string e.s,.string e.name,.string e.src,.slice A m c]
theorem args_at {F:Nat→Prop} {d:Nat} {w:World} {row:List Value} {op n:Int} {s name src:ByteArray} {args:List Ex} (h:ExAt F (d+1) w row (.mk op n s name src args)) :
  ∃ A c,row=[.int .i64 op,.int .i64 n,.string s,.string name,.string src,.slice A args.length c]∧args.length≤c∧c≤9223372036854775807∧(args≠[]→∃ b o,A=some ⟨b,o,none⟩∧F b∧b<w.heap.size∧∀ k a,args[k]?=some a→∃ A2 m2 c2,Six w b (o+k*6) a A2 m2 c2∧ExAt F d w (rowOf a A2 m2 c2) a):=by
 obtain⟨_,_,_,_,_,A,m,c,rfl,hl⟩:=h.open_
 have hm:args.length=m:=LsAt.len hl
 subst hm
 refine⟨A,c,rfl,LsAt.n_c hl,LsAt.c_le hl,fun hne=>?_⟩
 have h0:0<args.length:=List.length_pos_iff.2 hne
 obtain⟨b,o,r,x,hA,hb,hF,_⟩:=LsAt.get hl h0
 refine⟨b,o,hA,hF,hb,fun k a hk=>?_⟩
 obtain⟨hk2,_⟩:=List.getElem?_eq_some_iff.1 hk
 obtain⟨b2,o2,r2,x2,hA2,hb2,hF2,hx2,hl2,hp2,hc2⟩:=LsAt.get hl hk2
 rw[hA] at hA2
 injection hA2 with hA2
 injection hA2 with e1 e2
 subst e1 e2
 rw[show (Ex.mk op n s name src args).args=args from rfl] at hx2
 rw[hk] at hx2
 injection hx2 with hx2
 subst hx2
 obtain⟨A2,m2,c2,hr⟩:=ex_row hp2
 subst hr
 exact⟨A2,m2,c2,⟨by simpa using hc2 0 _ rfl,hc2 1 _ rfl,hc2 2 _ rfl,hc2 3 _ rfl,hc2 4 _ rfl,hc2 5 _ rfl⟩,hp2⟩
def Does (g:Nat) (w:World) (f:FuncId) (args:Array Value) (T:List UInt8) (B:Bool):Prop:=∀ W t br,Wrote g w W→WtAt g t br W→t.length+T.length≤1000000000→Calls Tryz.prog f args W fun e' w'=>e'=.returned (.tuple #[])∧WtAt g (t++T) (br||B) w'∧Wrote g W w'
theorem expr_two (op n lv lf:Int) (sg:List UInt8) (s name src:ByteArray) (b o c:Nat) (a1 a2:Ex) (A1 A2:Option Addr) (m1 c1 m2 c2:Nat) (T1 T2:List UInt8) (B1 B2:Bool) (g:Nat) (t:List UInt8) (br:Bool) (w:World) (h6:6≤op) (h18:op≤18) (hsg:sgnL op=sg) (hlv:lvlZ op=lv) (hlf:lf=if lv=4 then lv+1 else lv) (hl1:1≤lv) (hl2:lv≤8) (h:WtAt g t br w) (hbg:b<g)
  (hS1:Six w b o a1 A1 m1 c1) (hS2:Six w b (o+6) a2 A2 m2 c2)
  (hD1:Does g w 52 #[.pointer (some ⟨g,0,none⟩),.agg (rowOf a1 A1 m1 c1).toArray,.int .i64 lf] T1 B1)
  (hD2:Does g w 52 #[.pointer (some ⟨g,0,none⟩),.agg (rowOf a2 A2 m2 c2).toArray,.int .i64 (lv+1)] T2 B2)
  (hlen:t.length+(T1++([32]++sg++[32])++T2).length≤1000000000) :
  Calls Tryz.prog 21 #[.pointer (some ⟨g,0,none⟩),.agg #[.int .i64 op,.int .i64 n,.string s,.string name,.string src,.slice (some ⟨b,o,none⟩) 2 c]] w fun e' w'=>e'=.returned (.tuple #[])∧WtAt g (t++(T1++([32]++sg++[32])++T2)) (br||(B1||B2)) w'∧Wrote g w w':=by
 have Hsg:=Lhd (fun W=>(show Calls Tryz.prog 45 #[.int .i64 op] W fun e w'=>e=.returned (.tuple #[.string ⟨sg.toArray⟩,.int .i64 lv])∧Below W.heap.size W w' from by
  have h:=sign_any op W (by omega) (by omega)
  unfold SignQ at h
  rw[hsg,hlv] at h
  exact h))
 clear hsg hlv
 have n1:(op==1)=false:=by simp;omega
 have n2:(op==2)=false:=by simp;omega
 have n3:(op==3)=false:=by simp;omega
 have n4:(op==4)=false:=by simp;omega
 have n5:(op==5)=false:=by simp;omega
 have n19:(op==19)=false:=by simp;omega
 have n20:(op==20)=false:=by simp;omega
 have n21:(op==21)=false:=by simp;omega
 have n22:(op==22)=false:=by simp;omega
 have n23:(op==23)=false:=by simp;omega
 have n24:(op==24)=false:=by simp;omega
 clear h6 h18
 obtain⟨w1,Hw1⟩:∃ w1,Hid (w1=w.alloc (.cells #[.int .i64 op,.int .i64 n,.string s,.string name,.string src,.slice (some ⟨b,o,none⟩) 2 c] 32)):=⟨_,rfl⟩
 have hb1:Below w.heap.size w w1:=by rw[Hw1.out];exact(Below.refl _ _).alloc (Nat.le_refl _) _
 have hk1:IsBlk w1 w.heap.size 32 #[.int .i64 op,.int .i64 n,.string s,.string name,.string src,.slice (some ⟨b,o,none⟩) 2 c]:=by rw[Hw1.out];exact IsBlk.laid _ _ _
 have hr1:Wrote g w w1:=Wrote.of_below (Nat.le_of_lt h.lt) hb1
 have Hx:=Lhd (fun W (hW:Wrote g w1 W)=>box6 (hW.2.2 _ _ _ (by decide) (by decide) hk1))
 have hwt1:=h.below hb1
 have Hr1:=Lhd hr1
 have HS1:=Lhd (fun W (hW:Wrote g w W)=>hS1.wrote hbg hW)
 have HS2:=Lhd (fun W (hW:Wrote g w W)=>hS2.wrote hbg hW)
 have HD1:=Lhd hD1
 have HD2:=Lhd hD2
 have Hbg:=Lhd hbg
 obtain⟨x0,x1,x2,x3,x4,x5,xl⟩:=Hx.out _ (Wrote.refl _ _)
 have Hlen:=Lhd hlen
 clear hk1 h hlen hb1 hr1 hS1 hS2 hD1 hD2 hbg
 rcases Classical.em (lv=4) with h4|h4
 ·rw[if_pos h4] at hlf
  have q4:(lv==4)=true:=by simp[h4]
  subst hlf
  clear h4
  go_enter Tryz.func21,Tryz.ntmps21
  go_upto_region 1 with (fail)
  rw[← Hw1.out]
  go_wp2_with (go_at_call 45;refine(Hsg.out _).mono ?_)
  rintro e' w2 ⟨rfl,hb2⟩
  have hr2:Wrote g w1 w2:=Wrote.of_below (Nat.le_of_lt hwt1.lt) hb2
  have hwt2:=hwt1.below hb2
  obtain⟨y0,y1,y2,y3,y4,y5,yl⟩:=Hx.out _ hr2
  obtain⟨z0,z1,z2,z3,z4,z5⟩:=HS1.out _ (Hr1.out.trans hr2)
  have hbl:b<w2.heap.size:=by have:=Hbg.out;have:=hwt2.lt;omega
  clear x0 x1 x2 x3 x4 x5 xl hwt1 hb2
  go_wp2_with (fail)
  refine(HD1.out _ t br (Hr1.out.trans hr2) hwt2 (by
   have:=Hlen.out
   simp only[List.length_append,List.length_cons,List.length_nil] at this
   omega)).mono ?_
  rintro e' w3 ⟨rfl,hwt3,hr3⟩
  have hr3':=hr2.trans hr3
  have Hr3:=Lhd hr3'
  obtain⟨x0,x1,x2,x3,x4,x5,xl⟩:=Hx.out _ hr3'
  clear y0 y1 y2 y3 y4 y5 yl z0 z1 z2 z3 z4 z5 hbl hwt2 hr2 hr3 hr3'
  go_wp2_with (fail)
  refine(put_new g 3 _ _ [⟨#[32]⟩,⟨sg.toArray⟩,⟨#[32]⟩] _ hwt3 rfl (by decide) (by
   have:=Hlen.out
   simp only[List.length_append,List.length_cons,List.length_nil] at this
   simp only[catL,List.map_cons,List.map_nil,List.flatten_cons,List.flatten_nil,List.length_append,List.length_cons,List.length_nil]
   omega)).mono ?_
  rintro e' w4 ⟨rfl,hwt4,hr4⟩
  have e4:t++T1++catL [⟨#[32]⟩,⟨sg.toArray⟩,⟨#[32]⟩]=t++(T1++([32]++sg++[32])):=by simp[catL]
  rw[e4] at hwt4
  have hr4':=Hr3.out.trans hr4
  have Hr4:=Lhd hr4'
  obtain⟨y0,y1,y2,y3,y4,y5,yl⟩:=Hx.out _ hr4'
  obtain⟨z0,z1,z2,z3,z4,z5⟩:=HS2.out _ (Hr1.out.trans hr4')
  have hbl:b<w4.heap.size:=by have:=Hbg.out;have:=hwt4.lt;omega
  clear x0 x1 x2 x3 x4 x5 xl hwt3 hr4 hr4' e4
  go_wp2_with (fail)
  refine(HD2.out _ _ _ (Hr1.out.trans Hr4.out) hwt4 (by
   have:=Hlen.out
   simp only[List.length_append,List.length_cons,List.length_nil] at this ⊢
   omega)).mono ?_
  rintro e' w5 ⟨rfl,hwt5,hr5⟩
  have e5:t++(T1++([32]++sg++[32]))++T2=t++(T1++([32]++sg++[32])++T2):=by simp
  rw[e5,Bool.or_assoc] at hwt5
  have H5:=Lhd (And.intro hwt5 (Hr1.out.trans (Hr4.out.trans hr5)))
  clear hwt5 hr5 e5 y0 y1 y2 y3 y4 y5 yl z0 z1 z2 z3 z4 z5 hbl hwt4
  go_wp2
  go_end0
  exact⟨rfl,H5.out.1,H5.out.2⟩
 ·rw[if_neg h4] at hlf
  have q4:(lv==4)=false:=by simp[h4]
  subst hlf
  clear h4
  go_enter Tryz.func21,Tryz.ntmps21
  go_upto_region 1 with (fail)
  rw[← Hw1.out]
  go_wp2_with (go_at_call 45;refine(Hsg.out _).mono ?_)
  rintro e' w2 ⟨rfl,hb2⟩
  have hr2:Wrote g w1 w2:=Wrote.of_below (Nat.le_of_lt hwt1.lt) hb2
  have hwt2:=hwt1.below hb2
  obtain⟨y0,y1,y2,y3,y4,y5,yl⟩:=Hx.out _ hr2
  obtain⟨z0,z1,z2,z3,z4,z5⟩:=HS1.out _ (Hr1.out.trans hr2)
  have hbl:b<w2.heap.size:=by have:=Hbg.out;have:=hwt2.lt;omega
  clear x0 x1 x2 x3 x4 x5 xl hwt1 hb2
  go_wp2_with (fail)
  refine(HD1.out _ t br (Hr1.out.trans hr2) hwt2 (by
   have:=Hlen.out
   simp only[List.length_append,List.length_cons,List.length_nil] at this
   omega)).mono ?_
  rintro e' w3 ⟨rfl,hwt3,hr3⟩
  have hr3':=hr2.trans hr3
  have Hr3:=Lhd hr3'
  obtain⟨x0,x1,x2,x3,x4,x5,xl⟩:=Hx.out _ hr3'
  clear y0 y1 y2 y3 y4 y5 yl z0 z1 z2 z3 z4 z5 hbl hwt2 hr2 hr3 hr3'
  go_wp2_with (fail)
  refine(put_new g 3 _ _ [⟨#[32]⟩,⟨sg.toArray⟩,⟨#[32]⟩] _ hwt3 rfl (by decide) (by
   have:=Hlen.out
   simp only[List.length_append,List.length_cons,List.length_nil] at this
   simp only[catL,List.map_cons,List.map_nil,List.flatten_cons,List.flatten_nil,List.length_append,List.length_cons,List.length_nil]
   omega)).mono ?_
  rintro e' w4 ⟨rfl,hwt4,hr4⟩
  have e4:t++T1++catL [⟨#[32]⟩,⟨sg.toArray⟩,⟨#[32]⟩]=t++(T1++([32]++sg++[32])):=by simp[catL]
  rw[e4] at hwt4
  have hr4':=Hr3.out.trans hr4
  have Hr4:=Lhd hr4'
  obtain⟨y0,y1,y2,y3,y4,y5,yl⟩:=Hx.out _ hr4'
  obtain⟨z0,z1,z2,z3,z4,z5⟩:=HS2.out _ (Hr1.out.trans hr4')
  have hbl:b<w4.heap.size:=by have:=Hbg.out;have:=hwt4.lt;omega
  clear x0 x1 x2 x3 x4 x5 xl hwt3 hr4 hr4' e4
  go_wp2_with (fail)
  refine(HD2.out _ _ _ (Hr1.out.trans Hr4.out) hwt4 (by
   have:=Hlen.out
   simp only[List.length_append,List.length_cons,List.length_nil] at this ⊢
   omega)).mono ?_
  rintro e' w5 ⟨rfl,hwt5,hr5⟩
  have e5:t++(T1++([32]++sg++[32]))++T2=t++(T1++([32]++sg++[32])++T2):=by simp
  rw[e5,Bool.or_assoc] at hwt5
  have H5:=Lhd (And.intro hwt5 (Hr1.out.trans (Hr4.out.trans hr5)))
  clear hwt5 hr5 e5 y0 y1 y2 y3 y4 y5 yl z0 z1 z2 z3 z4 z5 hbl hwt4
  go_wp2
  go_end0
  exact⟨rfl,H5.out.1,H5.out.2⟩
theorem expr_one (op n lv:Int) (sg:List UInt8) (s name src:ByteArray) (b o c:Nat) (a1:Ex) (A1:Option Addr) (m1 c1:Nat) (T1:List UInt8) (B1:Bool) (g:Nat) (t:List UInt8) (br:Bool) (w:World) (hop:op=19∨op=20) (hsg:sgnL op=sg) (hlv:lvlZ op=lv) (h:WtAt g t br w) (hbg:b<g)
  (hS1:Six w b o a1 A1 m1 c1)
  (hD1:Does g w 52 #[.pointer (some ⟨g,0,none⟩),.agg (rowOf a1 A1 m1 c1).toArray,.int .i64 lv] T1 B1)
  (hlen:t.length+(sg++T1).length≤1000000000) :
  Calls Tryz.prog 21 #[.pointer (some ⟨g,0,none⟩),.agg #[.int .i64 op,.int .i64 n,.string s,.string name,.string src,.slice (some ⟨b,o,none⟩) 1 c]] w fun e' w'=>e'=.returned (.tuple #[])∧WtAt g (t++(sg++T1)) (br||B1) w'∧Wrote g w w':=by
 have Hsg:=Lhd (fun W=>(show Calls Tryz.prog 45 #[.int .i64 op] W fun e w'=>e=.returned (.tuple #[.string ⟨sg.toArray⟩,.int .i64 lv])∧Below W.heap.size W w' from by
  have h:=sign_any op W (by omega) (by omega)
  unfold SignQ at h
  rw[hsg,hlv] at h
  exact h))
 clear hsg hlv
 obtain⟨w1,Hw1⟩:∃ w1,Hid (w1=w.alloc (.cells #[.int .i64 op,.int .i64 n,.string s,.string name,.string src,.slice (some ⟨b,o,none⟩) 1 c] 32)):=⟨_,rfl⟩
 have hb1:Below w.heap.size w w1:=by rw[Hw1.out];exact(Below.refl _ _).alloc (Nat.le_refl _) _
 have hk1:IsBlk w1 w.heap.size 32 #[.int .i64 op,.int .i64 n,.string s,.string name,.string src,.slice (some ⟨b,o,none⟩) 1 c]:=by rw[Hw1.out];exact IsBlk.laid _ _ _
 have hr1:Wrote g w w1:=Wrote.of_below (Nat.le_of_lt h.lt) hb1
 have Hx:=Lhd (fun W (hW:Wrote g w1 W)=>box6 (hW.2.2 _ _ _ (by decide) (by decide) hk1))
 have hwt1:=h.below hb1
 have Hr1:=Lhd hr1
 have HS1:=Lhd (fun W (hW:Wrote g w W)=>hS1.wrote hbg hW)
 have HD1:=Lhd hD1
 have Hbg:=Lhd hbg
 have Hlow:=Lhd hwt1.lt
 obtain⟨x0,x1,x2,x3,x4,x5,xl⟩:=Hx.out _ (Wrote.refl _ _)
 have Hlen:=Lhd hlen
 clear hk1 h hlen hb1 hr1 hS1 hD1 hbg
 rcases hop with rfl|rfl
 all_goals
  go_enter Tryz.func21,Tryz.ntmps21
  go_upto_region 1 with (fail)
  rw[← Hw1.out]
  go_wp2_with (go_at_call 45;refine(Hsg.out _).mono ?_)
  rintro e' w2 ⟨rfl,hb2⟩
  have hr2:Wrote g w1 w2:=Wrote.of_below (Nat.le_of_lt hwt1.lt) hb2
  have hwt2:=hwt1.below hb2
  obtain⟨y0,y1,y2,y3,y4,y5,yl⟩:=Hx.out _ hr2
  clear x0 x1 x2 x3 x4 x5 xl hwt1 hb2
  go_wp2_with (fail)
  refine(put_new g 1 _ _ [⟨sg.toArray⟩] _ hwt2 rfl (by decide) (by have h9:=Hlen.out;simp[catL] at h9 ⊢;omega)).mono ?_
  rintro e' w4 ⟨rfl,hwt4,hr4⟩
  have e4:t++catL [⟨sg.toArray⟩]=t++sg:=by simp[catL]
  rw[e4] at hwt4
  have hr4':=hr2.trans hr4
  have Hr4:=Lhd hr4'
  obtain⟨x0,x1,x2,x3,x4,x5,xl⟩:=Hx.out _ hr4'
  obtain⟨z0,z1,z2,z3,z4,z5⟩:=HS1.out _ (Hr1.out.trans hr4')
  have hbl:b<w4.heap.size:=by have:=Hbg.out;have:=hwt4.lt;omega
  clear y0 y1 y2 y3 y4 y5 yl hwt2 hr2 hr4 hr4' e4
  go_wp2_with (fail)
  refine(HD1.out _ _ _ (Hr1.out.trans Hr4.out) hwt4 (by have h9:=Hlen.out;simp at h9 ⊢;omega)).mono ?_
  rintro e' w5 ⟨rfl,hwt5,hr5⟩
  rw[List.append_assoc] at hwt5
  have H5:=Lhd (And.intro hwt5 (Hr1.out.trans (Hr4.out.trans hr5)))
  clear hwt5 hr5 x0 x1 x2 x3 x4 x5 xl z0 z1 z2 z3 z4 z5 hbl hwt4
  go_wp2
  go_end0
  exact⟨rfl,H5.out.1,H5.out.2⟩
theorem expr_count (op n lv:Int) (sg:List UInt8) (s name src:ByteArray) (b o c:Nat) (a1:Ex) (A1:Option Addr) (m1 c1:Nat) (T1:List UInt8) (B1:Bool) (g:Nat) (t:List UInt8) (br:Bool) (w:World) (hop:op=21) (hsg:sgnL op=sg) (hlv:lvlZ op=lv) (h:WtAt g t br w) (hbg:b<g)
  (hS1:Six w b o a1 A1 m1 c1)
  (hD1:Does g w 53 #[.pointer (some ⟨g,0,none⟩),.string name,.string src,.agg (rowOf a1 A1 m1 c1).toArray] T1 B1)
  (hlen:t.length+(sg++[40]++T1++[41]).length≤1000000000) :
  Calls Tryz.prog 21 #[.pointer (some ⟨g,0,none⟩),.agg #[.int .i64 op,.int .i64 n,.string s,.string name,.string src,.slice (some ⟨b,o,none⟩) 1 c]] w fun e' w'=>e'=.returned (.tuple #[])∧WtAt g (t++(sg++[40]++T1++[41])) (br||B1) w'∧Wrote g w w':=by
 have Hsg:=Lhd (fun W=>(show Calls Tryz.prog 45 #[.int .i64 op] W fun e w'=>e=.returned (.tuple #[.string ⟨sg.toArray⟩,.int .i64 lv])∧Below W.heap.size W w' from by
  have h:=sign_any op W (by omega) (by omega)
  unfold SignQ at h
  rw[hsg,hlv] at h
  exact h))
 clear hsg hlv
 obtain⟨w1,Hw1⟩:∃ w1,Hid (w1=w.alloc (.cells #[.int .i64 op,.int .i64 n,.string s,.string name,.string src,.slice (some ⟨b,o,none⟩) 1 c] 32)):=⟨_,rfl⟩
 have hb1:Below w.heap.size w w1:=by rw[Hw1.out];exact(Below.refl _ _).alloc (Nat.le_refl _) _
 have hk1:IsBlk w1 w.heap.size 32 #[.int .i64 op,.int .i64 n,.string s,.string name,.string src,.slice (some ⟨b,o,none⟩) 1 c]:=by rw[Hw1.out];exact IsBlk.laid _ _ _
 have hr1:Wrote g w w1:=Wrote.of_below (Nat.le_of_lt h.lt) hb1
 have Hx:=Lhd (fun W (hW:Wrote g w1 W)=>box6 (hW.2.2 _ _ _ (by decide) (by decide) hk1))
 have hwt1:=h.below hb1
 have Hr1:=Lhd hr1
 have HS1:=Lhd (fun W (hW:Wrote g w W)=>hS1.wrote hbg hW)
 have HD1:=Lhd hD1
 have Hbg:=Lhd hbg
 have Hlow:=Lhd hwt1.lt
 obtain⟨x0,x1,x2,x3,x4,x5,xl⟩:=Hx.out _ (Wrote.refl _ _)
 have Hlen:=Lhd hlen
 clear hk1 h hlen hb1 hr1 hS1 hD1 hbg
 subst hop
 all_goals
  go_enter Tryz.func21,Tryz.ntmps21
  go_upto_region 1 with (fail)
  rw[← Hw1.out]
  go_wp2_with (go_at_call 45;refine(Hsg.out _).mono ?_)
  rintro e' w2 ⟨rfl,hb2⟩
  have hr2:Wrote g w1 w2:=Wrote.of_below (Nat.le_of_lt hwt1.lt) hb2
  have hwt2:=hwt1.below hb2
  obtain⟨y0,y1,y2,y3,y4,y5,yl⟩:=Hx.out _ hr2
  clear x0 x1 x2 x3 x4 x5 xl hwt1 hb2
  go_wp2_with (fail)
  refine(put_new g 2 _ _ [⟨sg.toArray⟩,⟨#[40]⟩] _ hwt2 rfl (by decide) (by have h9:=Hlen.out;simp[catL] at h9 ⊢;omega)).mono ?_
  rintro e' w4 ⟨rfl,hwt4,hr4⟩
  have e4:t++catL [⟨sg.toArray⟩,⟨#[40]⟩]=t++(sg++[40]):=by simp[catL]
  rw[e4] at hwt4
  have hr4':=hr2.trans hr4
  have hbd:=(Below.refl w4.heap.size w4).drew
  have hr5:=hr4'.trans (Wrote.of_below (Nat.le_of_lt hwt4.lt) hbd)
  have hwt5:=hwt4.below hbd
  obtain⟨x0,x1,x2,x3,x4,x5,xl⟩:=Hx.out _ hr4'
  obtain⟨z0,z1,z2,z3,z4,z5⟩:=HS1.out _ (Hr1.out.trans hr4')
  have hbl:b<w4.heap.size:=by have:=Hbg.out;have:=hwt4.lt;omega
  have Hc5:=Lhd (HD1.out _ _ _ (Hr1.out.trans hr5) hwt5 (by have h9:=Hlen.out;simp at h9 ⊢;omega))
  have Hr5:=Lhd hr5
  clear y0 y1 y2 y3 y4 y5 yl hwt2 hr2 hr4 hr4' e4 hwt4 hbd hr5 hwt5
  go_upto_region 29 with (fail)
  go_still_tail 9,(by kernel_rfl)
  change wpList _ _ _ _ _ w4.drew
  generalize w4.drew=w5 at *
  clear x0 x1 x2 x3 x4 x5 xl z0 z1 z2 z3 z4 z5 hbl
  obtain⟨x0,x1,x2,x3,x4,x5,xl⟩:=Hx.out _ Hr5.out
  obtain⟨z0,z1,z2,z3,z4,z5⟩:=HS1.out _ (Hr1.out.trans Hr5.out)
  have hbl:b<w5.heap.size:=by have:=Hbg.out;have:=Hr5.out.1.size;have:=Hlow.out;omega
  go_wp2_with (fail)
  refine Hc5.out.mono ?_
  rintro e' w6 ⟨rfl,hwt6,hr6⟩
  have hr6':=Hr5.out.trans hr6
  have Hr6:=Lhd hr6'
  have Hwt6:=Lhd hwt6
  clear x0 x1 x2 x3 x4 x5 xl z0 z1 z2 z3 z4 z5 hbl
  obtain⟨x0,x1,x2,x3,x4,x5,xl⟩:=Hx.out _ hr6'
  clear hr6 hr6' hwt6
  go_wp2_with (fail)
  refine(put_new g 1 _ _ [⟨#[41]⟩] _ Hwt6.out rfl (by decide) (by have h9:=Hlen.out;simp[catL] at h9 ⊢;omega)).mono ?_
  rintro e' w9 ⟨rfl,hwt9,hr9⟩
  have H9:=Lhd (And.intro hwt9 (Hr1.out.trans (Hr6.out.trans hr9)))
  clear hwt9 hr9 x0 x1 x2 x3 x4 x5 xl
  go_wp2
  go_end0
  refine⟨rfl,?_,H9.out.2⟩
  have h9:=H9.out.1
  simpa [catL,Bool.or_assoc] using h9
theorem expr_over (op n lv:Int) (sg:List UInt8) (s name src:ByteArray) (b o c:Nat) (a1 a2:Ex) (A1 A2:Option Addr) (m1 c1 m2 c2:Nat) (T1 T2:List UInt8) (B1 B2:Bool) (g:Nat) (t:List UInt8) (br:Bool) (w:World) (hop:op=22∨op=23∨op=24) (hsg:sgnL op=sg) (hlv:lvlZ op=lv) (h:WtAt g t br w) (hbg:b<g)
  (hS1:Six w b o a1 A1 m1 c1)
  (hD1:Does g w 53 #[.pointer (some ⟨g,0,none⟩),.string name,.string src,.agg (rowOf a1 A1 m1 c1).toArray] T1 B1)
  (hS2:Six w b (o+6) a2 A2 m2 c2)
  (hD2:Does g w 21 #[.pointer (some ⟨g,0,none⟩),.agg (rowOf a2 A2 m2 c2).toArray] T2 B2)
  (hlen:t.length+(sg++[40]++T1++([58,32]++T2)++[41]).length≤1000000000) :
  Calls Tryz.prog 21 #[.pointer (some ⟨g,0,none⟩),.agg #[.int .i64 op,.int .i64 n,.string s,.string name,.string src,.slice (some ⟨b,o,none⟩) 2 c]] w fun e' w'=>e'=.returned (.tuple #[])∧WtAt g (t++(sg++[40]++T1++([58,32]++T2)++[41])) (br||(B1||B2)) w'∧Wrote g w w':=by
 have Hsg:=Lhd (fun W=>(show Calls Tryz.prog 45 #[.int .i64 op] W fun e w'=>e=.returned (.tuple #[.string ⟨sg.toArray⟩,.int .i64 lv])∧Below W.heap.size W w' from by
  have h:=sign_any op W (by omega) (by omega)
  unfold SignQ at h
  rw[hsg,hlv] at h
  exact h))
 clear hsg hlv
 obtain⟨w1,Hw1⟩:∃ w1,Hid (w1=w.alloc (.cells #[.int .i64 op,.int .i64 n,.string s,.string name,.string src,.slice (some ⟨b,o,none⟩) 2 c] 32)):=⟨_,rfl⟩
 have hb1:Below w.heap.size w w1:=by rw[Hw1.out];exact(Below.refl _ _).alloc (Nat.le_refl _) _
 have hk1:IsBlk w1 w.heap.size 32 #[.int .i64 op,.int .i64 n,.string s,.string name,.string src,.slice (some ⟨b,o,none⟩) 2 c]:=by rw[Hw1.out];exact IsBlk.laid _ _ _
 have hr1:Wrote g w w1:=Wrote.of_below (Nat.le_of_lt h.lt) hb1
 have Hx:=Lhd (fun W (hW:Wrote g w1 W)=>box6 (hW.2.2 _ _ _ (by decide) (by decide) hk1))
 have hwt1:=h.below hb1
 have Hr1:=Lhd hr1
 have HS1:=Lhd (fun W (hW:Wrote g w W)=>hS1.wrote hbg hW)
 have HD1:=Lhd hD1
 have HS2:=Lhd (fun W (hW:Wrote g w W)=>hS2.wrote hbg hW)
 have HD2:=Lhd hD2
 have Hbg:=Lhd hbg
 have Hlow:=Lhd hwt1.lt
 obtain⟨x0,x1,x2,x3,x4,x5,xl⟩:=Hx.out _ (Wrote.refl _ _)
 have Hlen:=Lhd hlen
 clear hk1 h hlen hb1 hr1 hS1 hD1 hbg hS2 hD2
 rcases hop with rfl|rfl|rfl
 all_goals
  go_enter Tryz.func21,Tryz.ntmps21
  go_upto_region 1 with (fail)
  rw[← Hw1.out]
  go_wp2_with (go_at_call 45;refine(Hsg.out _).mono ?_)
  rintro e' w2 ⟨rfl,hb2⟩
  have hr2:Wrote g w1 w2:=Wrote.of_below (Nat.le_of_lt hwt1.lt) hb2
  have hwt2:=hwt1.below hb2
  obtain⟨y0,y1,y2,y3,y4,y5,yl⟩:=Hx.out _ hr2
  clear x0 x1 x2 x3 x4 x5 xl hwt1 hb2
  go_wp2_with (fail)
  refine(put_new g 2 _ _ [⟨sg.toArray⟩,⟨#[40]⟩] _ hwt2 rfl (by decide) (by have h9:=Hlen.out;simp[catL] at h9 ⊢;omega)).mono ?_
  rintro e' w4 ⟨rfl,hwt4,hr4⟩
  have e4:t++catL [⟨sg.toArray⟩,⟨#[40]⟩]=t++(sg++[40]):=by simp[catL]
  rw[e4] at hwt4
  have hr4':=hr2.trans hr4
  have hbd:=(Below.refl w4.heap.size w4).drew
  have hr5:=hr4'.trans (Wrote.of_below (Nat.le_of_lt hwt4.lt) hbd)
  have hwt5:=hwt4.below hbd
  obtain⟨x0,x1,x2,x3,x4,x5,xl⟩:=Hx.out _ hr4'
  obtain⟨z0,z1,z2,z3,z4,z5⟩:=HS1.out _ (Hr1.out.trans hr4')
  have hbl:b<w4.heap.size:=by have:=Hbg.out;have:=hwt4.lt;omega
  have Hc5:=Lhd (HD1.out _ _ _ (Hr1.out.trans hr5) hwt5 (by have h9:=Hlen.out;simp at h9 ⊢;omega))
  have Hr5:=Lhd hr5
  clear y0 y1 y2 y3 y4 y5 yl hwt2 hr2 hr4 hr4' e4 hwt4 hbd hr5 hwt5
  go_upto_region 29 with (fail)
  go_still_tail 9,(by kernel_rfl)
  change wpList _ _ _ _ _ w4.drew
  generalize w4.drew=w5 at *
  clear x0 x1 x2 x3 x4 x5 xl z0 z1 z2 z3 z4 z5 hbl
  obtain⟨x0,x1,x2,x3,x4,x5,xl⟩:=Hx.out _ Hr5.out
  obtain⟨z0,z1,z2,z3,z4,z5⟩:=HS1.out _ (Hr1.out.trans Hr5.out)
  have hbl:b<w5.heap.size:=by have:=Hbg.out;have:=Hr5.out.1.size;have:=Hlow.out;omega
  go_wp2_with (fail)
  refine Hc5.out.mono ?_
  rintro e' w6 ⟨rfl,hwt6,hr6⟩
  have hr6':=Hr5.out.trans hr6
  have Hr6:=Lhd hr6'
  have Hwt6:=Lhd hwt6
  clear x0 x1 x2 x3 x4 x5 xl z0 z1 z2 z3 z4 z5 hbl
  obtain⟨x0,x1,x2,x3,x4,x5,xl⟩:=Hx.out _ hr6'
  clear hr6 hr6' hwt6
  go_wp2_with (fail)
  refine(put_new g 1 _ _ [⟨#[58,32]⟩] _ Hwt6.out rfl (by decide) (by have h9:=Hlen.out;simp[catL] at h9 ⊢;omega)).mono ?_
  rintro e' w7 ⟨rfl,hwt7,hr7⟩
  have hr7':=Hr6.out.trans hr7
  have Hr7:=Lhd hr7'
  clear x0 x1 x2 x3 x4 x5 xl
  obtain⟨x0,x1,x2,x3,x4,x5,xl⟩:=Hx.out _ hr7'
  obtain⟨z0,z1,z2,z3,z4,z5⟩:=HS2.out _ (Hr1.out.trans hr7')
  have hbl:b<w7.heap.size:=by have:=Hbg.out;have:=hwt7.lt;omega
  have Hc8:=Lhd (HD2.out _ _ _ (Hr1.out.trans hr7') hwt7 (by have h9:=Hlen.out;simp[catL] at h9 ⊢;omega))
  clear hr7 hr7' hwt7
  go_wp2_with (fail)
  refine Hc8.out.mono ?_
  rintro e' w8 ⟨rfl,hwt8,hr8⟩
  have Hr8:=Lhd (Hr7.out.trans hr8)
  have Hwt8:=Lhd hwt8
  clear x0 x1 x2 x3 x4 x5 xl z0 z1 z2 z3 z4 z5 hbl hwt8 hr8
  go_wp2_with (fail)
  refine(put_new g 1 _ _ [⟨#[41]⟩] _ Hwt8.out rfl (by decide) (by have h9:=Hlen.out;simp[catL] at h9 ⊢;omega)).mono ?_
  rintro e' w9 ⟨rfl,hwt9,hr9⟩
  have H9:=Lhd (And.intro hwt9 (Hr1.out.trans (Hr8.out.trans hr9)))
  clear hwt9 hr9
  go_wp2
  go_end0
  refine⟨rfl,?_,H9.out.2⟩
  have h9:=H9.out.1
  simpa [catL,Bool.or_assoc] using h9
theorem operand_does {F:Nat→Prop} {d g:Nat} {w:World} (hE:ExprC F d) {a:Ex} {A:Option Addr} {m c:Nat} (least:Int) (hx:ExAt F d w (rowOf a A m c) a) (hb:builtE d a=true) (hF:∀ k,F k→k<g) (hm:HasMax w) (hg:0<g) :
  Does g w 52 #[.pointer (some ⟨g,0,none⟩),.agg (rowOf a A m c).toArray,.int .i64 least] (opnd least a.op (txtE d a)) (nlE d a) :=
 fun W t br hW h hl=>operand_in F d hE a _ least g t br W (ExAt.wrote hx hF hW) hb hF h (hm.below hg hW.1) hg hl
theorem rows_does {F:Nat→Prop} {d g:Nat} {w:World} (hE:ExprC F d) {a:Ex} {A:Option Addr} {m c:Nat} (name src:ByteArray) (hx:ExAt F d w (rowOf a A m c) a) (hb:builtE d a=true) (hF:∀ k,F k→k<g) (hm:HasMax w) (hg:0<g) :
  Does g w 53 #[.pointer (some ⟨g,0,none⟩),.string name,.string src,.agg (rowOf a A m c).toArray] (rowsT name src a.op a.n (txtE d a)) (nlE d a) :=
 fun W t br hW h hl=>rows_in F d hE a _ name src g t br W (ExAt.wrote hx hF hW) hb hF h (hm.below hg hW.1) hg hl
theorem expr_does {F:Nat→Prop} {d g:Nat} {w:World} (hE:ExprC F d) {a:Ex} {A:Option Addr} {m c:Nat} (hx:ExAt F d w (rowOf a A m c) a) (hb:builtE d a=true) (hF:∀ k,F k→k<g) (hm:HasMax w) (hg:0<g) :
  Does g w 21 #[.pointer (some ⟨g,0,none⟩),.agg (rowOf a A m c).toArray] (txtE d a) (nlE d a) :=
 fun W t br hW h hl=>hE a _ g t br W (ExAt.wrote hx hF hW) hb hF h (hm.below hg hW.1) hg hl
theorem len_args {op:Int} {args:List Ex} (h:arityB op=args.length) (h6:6≤op) (h24:op≤24):(args.length=1∧(op=19∨op=20∨op=21))∨(args.length=2∧(op≤18∨op=22∨op=23∨op=24)):=by
 unfold arityB at h
 rw[if_neg (by omega)] at h
 split at h
 ·right;omega
 ·split at h
  ·left;omega
  ·split at h
   ·left;omega
   ·rw[if_pos (by omega)] at h
    right;omega
theorem expr_leafs {F:Nat→Prop} {d:Nat} {op n:Int} {s name src:ByteArray} {args:List Ex} {row:List Value} {g:Nat} {t:List UInt8} {br:Bool} {w:World} (hx:ExAt F (d+1) w row (.mk op n s name src args)) (hb:builtE (d+1) (.mk op n s name src args)=true) (h:WtAt g t br w) (hm:HasMax w) (hg:0<g) (hlen:t.length+(txtE (d+1) (.mk op n s name src args)).length≤1000000000) (h5:op=1∨op=2∨op=3∨op=4∨op=5) :
  Calls Tryz.prog 21 #[.pointer (some ⟨g,0,none⟩),.agg row.toArray] w fun e' w'=>e'=.returned (.tuple #[])∧WtAt g (t++txtE (d+1) (.mk op n s name src args)) (br||nlE (d+1) (.mk op n s name src args)) w'∧Wrote g w w':=by
 obtain⟨ha,hf,_⟩:=fields_op hb
 obtain rfl:=no_args ha h5
 obtain⟨A,c,rfl,_,_,_⟩:=args_at hx
 obtain⟨_,hn,_⟩:=hx.open_
 have hn:okI n:=hn
 unfold okI at hn
 rw[txt_op] at hlen ⊢
 rw[nl_op]
 rcases h5 with rfl|rfl|rfl|rfl|rfl
 ·have e:fieldsR 1 n s name src=(decide (0≤n)&&noS s&&noS name&&noS src):=rfl
  rw[e] at hf
  simp only[Bool.and_eq_true,decide_eq_true_eq] at hf
  have h:=expr_int n s name src A ([]:List Ex).length c g t br w h hf.1.1.1 hn.2 hlen
  simpa using h
 ·have e:fieldsR 2 n s name src=(decide (s.size≤200)&&decide (n=0)&&noS name&&noS src):=rfl
  rw[e] at hf
  simp only[Bool.and_eq_true,decide_eq_true_eq] at hf
  have h:=expr_text n s name src A ([]:List Ex).length c g t br w h hf.1.1.1 hm hg hlen
  simpa using h
 ·have e:fieldsR 3 n s name src=((decide (n=0)||decide (n=1))&&noS s&&noS name&&noS src):=rfl
  rw[e] at hf
  simp only[Bool.and_eq_true,Bool.or_eq_true,decide_eq_true_eq] at hf
  rcases hf.1.1.1 with rfl|rfl
  ·have h:=expr_false s name src A ([]:List Ex).length c g t br w h hlen
   simpa using h
  ·have h:=expr_true s name src A ([]:List Ex).length c g t br w h hlen
   simpa using h
 ·have h:=expr_var n s name src A ([]:List Ex).length c g t br w h hlen
  simpa using h
 ·have h:=expr_col n s name src A ([]:List Ex).length c g t br w h hlen
  simpa using h
theorem expr_any:∀ (d:Nat) (F:Nat→Prop),ExprC F d:=by
 intro d
 induction d with
 | zero=>intro F e row g t br w hx;exact hx.elim
 | succ d ih =>
  intro F e row g t br w hx hb hF h hm hg hlen
  obtain⟨o1,o2⟩:=built_op hb
  obtain⟨op,n,s,name,src,args⟩:=e
  have o1:1≤op:=o1
  have o2:op≤24:=o2
  by_cases h5:op≤5
  ·exact expr_leafs hx hb h hm hg hlen (by omega)
  ·obtain⟨ha,hf,hall⟩:=fields_op hb
   obtain⟨A,c,rfl,_,_,hat⟩:=args_at hx
   have hE:=ih F
   have hne:¬ op=2:=by omega
   rw[txt_op,if_neg (by omega),if_neg hne,if_neg (by omega),if_neg (by omega),if_neg (by omega)] at hlen ⊢
   rw[nl_op,decide_eq_false hne,Bool.false_and,Bool.false_or]
   rcases len_args ha (by omega) o2 with ⟨hl,hop⟩|⟨hl,hop⟩
   ·obtain⟨a,rfl⟩:=List.length_eq_one_iff.1 hl
    obtain⟨b,o,rfl,hFb,hbl,hget⟩:=hat (by simp)
    obtain⟨A1,m1,c1,hS1,hx1⟩:=hget 0 a rfl
    have hb1:=hall a (by simp)
    have hbg:=hF b hFb
    have hS1:Six w b o a A1 m1 c1:=by simpa using hS1
    by_cases h20:op=19∨op=20
    ·simp only[if_pos h20] at hlen ⊢
     have h:=expr_one op n (lvlZ op) (sgnL op) s name src b o c a A1 m1 c1 _ _ g t br w h20 rfl rfl h hbg hS1 (operand_does hE (lvlZ op) hx1 hb1 hF hm hg) hlen
     simpa using h
    ·simp only[if_neg h20] at hlen ⊢
     have h21:op=21:=by omega
     subst h21
     have h:=expr_count 21 n (lvlZ 21) (sgnL 21) s name src b o c a A1 m1 c1 _ _ g t br w rfl rfl rfl h hbg hS1 (rows_does hE name src hx1 hb1 hF hm hg) (by simpa using hlen)
     simpa using h
   ·obtain⟨a,a2,rfl⟩:∃ a a2,args=[a,a2]:=by
     rcases args with _|⟨a,_|⟨a2,_|⟨a3,r⟩⟩⟩<;>simp at hl
     exact⟨a,a2,rfl⟩
    obtain⟨b,o,rfl,hFb,hbl,hget⟩:=hat (by simp)
    obtain⟨A1,m1,c1,hS1,hx1⟩:=hget 0 a rfl
    obtain⟨A2,m2,c2,hS2,hx2⟩:=hget 1 a2 rfl
    have hb1:=hall a (by simp)
    have hb2:=hall a2 (by simp)
    have hbg:=hF b hFb
    have hS1:Six w b o a A1 m1 c1:=by simpa using hS1
    have hS2:Six w b (o+6) a2 A2 m2 c2:=by simpa using hS2
    have h19:¬ (op=19∨op=20):=by omega
    simp only[if_neg h19] at hlen ⊢
    by_cases h18:op≤18
    ·have h21:¬ 21≤op:=by omega
     simp only[if_neg h21] at hlen ⊢
     obtain⟨l1,l2⟩:=lvlZ_bd (op:=op) (by omega) (by omega)
     have elf:(if lvlZ op=4 then lvlZ op+1 else lvlZ op)=lvlZ op+(if lvlZ op=4 then 1 else 0):=by split<;>omega
     have h:=expr_two op n (lvlZ op) (lvlZ op+if lvlZ op=4 then 1 else 0) (sgnL op) s name src b o c a a2 A1 A2 m1 c1 m2 c2 _ _ _ _ g t br w (by omega) h18 rfl rfl elf.symm l1 l2 h hbg hS1 hS2 (operand_does hE _ hx1 hb1 hF hm hg) (operand_does hE _ hx2 hb2 hF hm hg) hlen
     simpa using h
    ·have h21:21≤op:=by omega
     have hn21:¬ op=21:=by omega
     simp only[if_pos h21,if_neg hn21] at hlen ⊢
     have h:=expr_over op n (lvlZ op) (sgnL op) s name src b o c a a2 A1 A2 m1 c1 m2 c2 _ _ _ _ g t br w (by omega) rfl rfl h hbg hS1 (rows_does hE name src hx1 hb1 hF hm hg) hS2 (expr_does hE hx2 hb2 hF hm hg) hlen
     simpa using h
end Go.Proofs.YtdgapmnojmhllaaGreatDoor
