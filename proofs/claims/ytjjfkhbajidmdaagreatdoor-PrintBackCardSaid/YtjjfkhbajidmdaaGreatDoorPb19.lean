/- Parts of this proof, one behind the other: PrsC, PrsD. -/
import Derived.Test.YtjjfkhbajidmdaaGreatDoorPb18
set_option maxRecDepth 1000000
set_option maxHeartbeats 40000000
namespace Go.Proofs.YtjjfkhbajidmdaaGreatDoor
open Go.RowKit Go.Afx
theorem MH {d:Nat}:∀ {cols:List ByteArray} {es:List Ex},cols.length=es.length→(jA d cols es).length=cols.length:=by
 intro cols
 induction cols with
 | nil=>intro es _;rfl
 | cons c cs ih =>
  intro es h
  cases es with
  | nil=>simp at h
  | cons e es=>simp only[jA,List.length_cons];rw[ih (by simpa using h)]
theorem WU {d:Nat}:∀ {cols:List ByteArray} {es:List Ex} {k:Nat} {c:ByteArray} {e:Ex},cols[k]?=some c→es[k]?=some e→(jA d cols es)[k]?=some (c.data.toList++[32,61,32]++aY d e):=by
 intro cols
 induction cols with
 | nil=>intro es k c e h;simp at h
 | cons c0 cs ih =>
  intro es k c e h1 h2
  cases es with
  | nil=>simp at h2
  | cons e0 es =>
   cases k with
   | zero=>simp at h1 h2;subst h1 h2;simp[jA]
   | succ k=>simp only[jA,List.getElem?_cons_succ] at h1 h2 ⊢;exact ih h1 h2
theorem TM {F:Nat→Prop} {n c g:Nat} {w:World} {A:Option Addr} {xs:List ByteArray} (h:ai F w 1 dL A n c xs) (hF:∀ k,F k→k<g) {k:Nat} (hk:k<n) :
  ∃ b o x,A=some ⟨b,o,none⟩∧xs[k]?=some x∧okS x∧∀ W,Wrote g w W→b<W.heap.size∧W.cell? ⟨b,o+k,none⟩=some (.string x):=by
 obtain⟨b,o,r,x,hA,hb,FH,hx,_,⟨rfl,hok⟩,hc⟩:=h.get hk
 exact⟨b,o,x,hA,hx,hok,fun W hW=>⟨Nat.lt_of_lt_of_le hb hW.1.size,(hW.1.cell (p:=⟨b,o+k,none⟩) (hF b FH)).trans (by simpa using hc 0 _ rfl)⟩⟩
theorem adX (name src:ByteArray) (n:Int) (Ac Ab Al:Option Addr) (nc cc nb cb nl cl:Nat) (F:Nat→Prop) (d:Nat) (cols:List ByteArray) (rest:List Ex) (b o ce:Nat) (a1:Ex) (A1:Option Addr) (m1 c1:Nat) (T:List UInt8) (B:Bool) (g:Nat) (t:List UInt8) (br:Bool) (w:World) (h:bz g t br w) (G5:ai F w 1 dL Ac nc cc cols) (hx:aO F d w (some ⟨b,o,none⟩) (nc+1) ce (a1::rest)) (hb:∀ e∈rest,aA d e=true) (hF:∀ k,F k→k<g) (hm:dZ w) (hg:0<g) (hnc:nc≤1000)
  (hbg:b<g) (hS:Six w b o a1 A1 m1 c1) (hD:Does g w 68 #[.pointer (some ⟨g,0,none⟩),.string name,.string src,.agg (rowOf a1 A1 m1 c1).toArray] T B)
  (hlen:t.length+([117,112,100,97,116,101,32]++T++[32,115,101,116,32]++aQ (jA d cols rest)).length≤1000000000) :
  Calls Tryz.prog 115 #[.pointer (some ⟨g,0,none⟩),.agg #[.int .i64 4,.string name,.string src,.int .i64 n,.slice Ac nc cc,.slice (some ⟨b,o,none⟩) (nc+1) ce,.slice Ab nb cb,.slice Al nl cl]] w fun e' w'=>e'=.returned (.tuple #[])∧bz g (t++([117,112,100,97,116,101,32]++T++[32,115,101,116,32]++aQ (jA d cols rest))) (br||(B||rest.any (zH d))) w'∧Wrote g w w':=by
 have hcl:=ai.len G5
 have hrl:=ai.len hx
 rw[List.length_cons] at hrl
 have hsl:=MH (d:=d) (cols:=cols) (es:=rest) (by omega)
 have TJ:=ae (fun k (hk:k<nc+1)=>KN hx hF hk)
 have agR:=ae (fun k (hk:k<nc)=>TM G5 hF hk)
 have Hb:=ae hb
 have HF:=ae hF
 have Hm:=ae hm
 have Hg:=ae hg
 obtain⟨w1,Hw1⟩:∃ w1,Hid (w1=w.alloc (.cells #[.int .i64 4,.string name,.string src,.int .i64 n,.slice Ac nc cc,.slice (some ⟨b,o,none⟩) (nc+1) ce,.slice Ab nb cb,.slice Al nl cl] 49)):=⟨_,rfl⟩
 have hb1:Below w.heap.size w w1:=by rw[Hw1.out];exact(Below.refl _ _).alloc (Nat.le_refl _) _
 have hk1:af w1 w.heap.size 49 #[.int .i64 4,.string name,.string src,.int .i64 n,.slice Ac nc cc,.slice (some ⟨b,o,none⟩) (nc+1) ce,.slice Ab nb cb,.slice Al nl cl]:=by rw[Hw1.out];exact af.laid _ _ _
 have iV:=ae (Wrote.of_below (Nat.le_of_lt h.lt) hb1:Wrote g w w1)
 have Hx:=ae (fun W (hW:Wrote g w1 W)=>Dz (hW.2.2 _ _ _ (by decide) (by decide) hk1))
 have bU:=h.below hb1
 have iG:=ae (Wrote.refl g w1)
 have Hlen:=ae hlen
 have HD:=ae hD
 have HS:=ae (fun W (hW:Wrote g w W)=>hS.wrote hbg hW)
 have Dv:=ae hbg
 obtain⟨x0,x1,x2,x3,x4,x5,x6,x7,xl⟩:=Hx.out _ (Wrote.refl _ _)
 clear hk1 h hlen hb1 G5 hx hb hF hm hg hS hD hbg
 go_enter Tryz.func115,Tryz.ntmps115
 go_upto_region 1 with (fail)
 rw[← Hw1.out]
 go_wp2_with (fail)
 refine(aF g 1 _ _ [⟨#[117,112,100,97,116,101,32]⟩] _ bU rfl (by decide) (by have h9:=Hlen.out;simp[aB] at h9 ⊢;omega)).mono ?_
 rintro e' w2 ⟨rfl,bI,hr2⟩
 have gm:=ae (iG.out.trans hr2)
 clear x0 x1 x2 x3 x4 x5 x6 x7 xl bU hr2
 obtain⟨x0,x1,x2,x3,x4,x5,x6,x7,xl⟩:=Hx.out _ gm.out
 have hbd:=(Below.refl w2.heap.size w2).drew
 have hr3:=gm.out.trans (Wrote.of_below (Nat.le_of_lt bI.lt) hbd)
 have bH:=bI.below hbd
 have Dl:=ae (HD.out _ _ _ (iV.out.trans hr3) bH (by have h9:=Hlen.out;simp[aB] at h9 ⊢;omega))
 have jm:=ae hr3
 have TL:=ae bH.lt
 obtain⟨z0,z1,z2,z3,z4,z5⟩:=HS.out _ (iV.out.trans gm.out)
 have hbl:b<w2.heap.size:=by have:=Dv.out;have:=bI.lt;omega
 clear bI hbd hr3 bH
 go_upto_region 18 with (fail)
 go_still_tail 9,(by kernel_rfl)
 change wpList _ _ _ _ _ w2.drew
 generalize w2.drew=w3 at *
 clear x0 x1 x2 x3 x4 x5 x6 x7 xl z0 z1 z2 z3 z4 z5 hbl
 obtain⟨x0,x1,x2,x3,x4,x5,x6,x7,xl⟩:=Hx.out _ jm.out
 obtain⟨z0,z1,z2,z3,z4,z5⟩:=HS.out _ (iV.out.trans jm.out)
 have hbl:b<w3.heap.size:=by have:=Dv.out;have:=TL.out;omega
 go_wp2_with (fail)
 refine Dl.out.mono ?_
 rintro e' w4 ⟨rfl,bu,hr4⟩
 have jg:=ae (jm.out.trans hr4)
 clear x0 x1 x2 x3 x4 x5 x6 x7 xl z0 z1 z2 z3 z4 z5 hbl hr4
 obtain⟨x0,x1,x2,x3,x4,x5,x6,x7,xl⟩:=Hx.out _ jg.out
 go_wp2_with (fail)
 refine(aF g 1 _ _ [⟨#[32,115,101,116,32]⟩] _ bu rfl (by decide) (by have h9:=Hlen.out;simp[aB] at h9 ⊢;omega)).mono ?_
 rintro e' w5 ⟨rfl,di,jf⟩
 have lY:=ae (jg.out.trans jf)
 clear x0 x1 x2 x3 x4 x5 x6 x7 xl bu jf
 obtain⟨x0,x1,x2,x3,x4,x5,x6,x7,xl⟩:=Hx.out _ lY.out
 have e1:t++aB [⟨#[117,112,100,97,116,101,32]⟩]++T++aB [⟨#[32,115,101,116,32]⟩]=t++[117,112,100,97,116,101,32]++T++[32,115,101,116,32]:=by simp[aB]
 rw[e1] at di
 have Hl:=ae (show (t++[117,112,100,97,116,101,32]++T++[32,115,101,116,32]).length+(aQ (jA d cols rest)).length≤1000000000 from by have h9:=Hlen.out;simp at h9 ⊢;omega)
 have He1:=ae (show t++([117,112,100,97,116,101,32]++T++[32,115,101,116,32]++aQ (jA d cols rest))=t++[117,112,100,97,116,101,32]++T++[32,115,101,116,32]++aQ (jA d cols rest) from by simp)
 generalize t++[117,112,100,97,116,101,32]++T++[32,115,101,116,32]=P at *
 generalize hbp:(br||B)=BP at *
 have Hbp:=ae hbp
 have Hw:=ae di
 have Hgl:=ae di.lt
 clear e1 hbp di
 generalize w5=wb at *
 have HRb:=ae (iV.out.trans lY.out)
 have KD:=ae (fun W (hW:Wrote g wb W)=>Hx.out W (lY.out.trans hW))
 go_wp2
 go_loopw [71] (fun i wr=>∃ k:Nat,k≤nc∧i=.int .i64 k∧Hid (bz g (P++aQ ((jA d cols rest).take k)) (BP||(rest.take k).any (zH d)) wr)∧Hid (Wrote g wb wr)) (fun i _=>nc-(intOf i).toNat)
 case atStart=>exact⟨0,Nat.zero_le _,rfl,ae (by simpa [aQ] using Hw.out),ae (Wrote.refl _ _)⟩
 case round =>
  obtain⟨k,hk,rfl,HW,HR⟩:=hrel
  rcases Nat.lt_or_ge k nc with hlt|hge
  ·obtain⟨b2,o2,c,rfl,hc2,hok,akq⟩:=agR.out k hlt
   obtain⟨b3,o3,e,A2,m2,c2,hA3,he,hat⟩:=TJ.out (k+1) (by omega)
   injection hA3 with hA3
   injection hA3 with e1 e2
   subst e1 e2
   rw[List.getElem?_cons_succ] at he
   have hlm:k<(jA d cols rest).length:=by omega
   have hjl:=uj hlm
   have hjt:=uZ hlm
   have hge:(jA d cols rest)[k]'hlm=c.data.toList++[32,61,32]++aY d e:=by
    have h1:=WU (d:=d) hc2 he
    exact(List.getElem?_eq_some_iff.1 h1).2
   rw[hge] at hjl hjt
   have TK:=ae (I5 (p:=zH d) he)
   have hbe:=Hb.out e (List.mem_of_getElem? he)
   have hRw:=HRb.out.trans HR.out
   obtain⟨ana,hcc⟩:=akq _ hRw
   have He:=ae (fun W (hW:Wrote g w W) t' br' (hwt:bz g t' br' W) (hl:t'.length+(aY d e).length≤1000000000)=>wQ d F e _ g t' br' W (hat W hW).2.2 hbe HF.out hwt (Hm.out.below Hg.out hW.1) Hg.out hl)
   have HS3:=ae (fun W (hW:Wrote g w W)=>(hat W hW).2.1)
   have HB3:=ae (fun W (hW:Wrote g w W)=>(hat W hW).1)
   have zJ:=ae (show (P++aQ ((jA d cols rest).take k)).length+(if k=0 then 0 else 2)+(c.data.toList++[32,61,32]++aY d e).length≤1000000000 from by have:=Hl.out;rw[List.length_append];omega)
   have NP:=ae hjt
   have HWk:=ae HW.out.lt
   have hw:=HW.out
   have i1:(0:Int)≤(k:Int)+1:=by omega
   have i2:(k:Int)+1<(nc:Int)+1:=by omega
   have i3:IntKind.i64.wrap ((k:Int)+1)=(k:Int)+1:=by simp only[IntKind.wrap,IntKind.bits,IntKind.signed];simp;omega
   have i4:((k:Int)+1).toNat=k+1:=by omega
   clear hat akq hjl hjt hge he hbe hlm hc2 hok
   go_upto_region 23 with (fail)
   clear ana hcc
   rcases Nat.eq_zero_or_pos k with rfl|h0
   ·rw[if_pos rfl] at zJ NP
    go_wp2_with (fail)
    refine(aF g 2 _ _ [c,⟨#[32,61,32]⟩] _ hw rfl (by decide) (by have h9:=zJ.out;simp[aB] at h9 ⊢;omega)).mono ?_
    rintro e' w5 ⟨rfl,di,jf⟩
    have HR5:=ae (HR.out.trans jf)
    have TN:=ae (HRb.out.trans HR5.out)
    obtain⟨x0,x1,x2,x3,x4,x5,x6,x7,xl⟩:=KD.out _ HR5.out
    obtain⟨z0,z1,z2,z3,z4,z5⟩:=HS3.out _ TN.out
    have hbl:=HB3.out _ TN.out
    clear hw jf
    go_wp2_with (go_at_call 29;refine(He.out _ TN.out _ _ di (by have h9:=zJ.out;simp[aB] at h9 ⊢;omega)).mono ?_;rintro e' w6 ⟨rfl,eG,lI⟩)
    have H6:=ae (And.intro eG (HR5.out.trans lI))
    clear eG lI
    go_roundw
    case rel =>
     refine⟨0+1,by omega,by go_num,ae ?_,ae H6.out.2⟩
     rw[NP.out,TK.out,← Bool.or_assoc]
     simpa [aB,aQ] using H6.out.1
    case measure=>simp[intOf];omega
   ·rw[if_neg (by omega)] at zJ NP
    go_wp2_with (fail)
    refine(aF g 1 _ _ [⟨#[44,32]⟩] _ hw rfl (by decide) (by have h9:=zJ.out;have e2:(aB [⟨#[44,32]⟩]).length=2:=rfl;omega)).mono ?_
    rintro e' w4 ⟨rfl,bu,hr4⟩
    have HR4:=ae (HR.out.trans hr4)
    clear hw hr4
    go_wp2_with (fail)
    refine(aF g 2 _ _ [c,⟨#[32,61,32]⟩] _ bu rfl (by decide) (by have h9:=zJ.out;simp[aB] at h9 ⊢;omega)).mono ?_
    rintro e' w5 ⟨rfl,di,jf⟩
    have HR5:=ae (HR4.out.trans jf)
    have TN:=ae (HRb.out.trans HR5.out)
    obtain⟨x0,x1,x2,x3,x4,x5,x6,x7,xl⟩:=KD.out _ HR5.out
    obtain⟨z0,z1,z2,z3,z4,z5⟩:=HS3.out _ TN.out
    have hbl:=HB3.out _ TN.out
    clear bu jf
    go_wp2_with (go_at_call 29;refine(He.out _ TN.out _ _ di (by have h9:=zJ.out;simp[aB] at h9 ⊢;omega)).mono ?_;rintro e' w6 ⟨rfl,eG,lI⟩)
    have H6:=ae (And.intro eG (HR5.out.trans lI))
    clear eG lI
    go_roundw
    case rel =>
     refine⟨k+1,by omega,by go_num,ae ?_,ae H6.out.2⟩
     rw[NP.out,TK.out,← Bool.or_assoc]
     simpa [aB] using H6.out.1
    case measure=>simp[intOf];omega
  ·obtain rfl:k=nc:=Nat.le_antisymm hk hge
   have e1:(jA d cols rest).take k=jA d cols rest:=List.take_of_length_le (by omega)
   have e2:rest.take k=rest:=List.take_of_length_le (by omega)
   rw[e1,e2] at HW
   go_wp2
   go_end0
   have hf:bz g (t++([117,112,100,97,116,101,32]++T++[32,115,101,116,32]++aQ (jA d cols rest))) (br||(B||rest.any (zH d))) wr:=by
    rw[He1.out,← Bool.or_assoc,Hbp.out]
    exact HW.out
   exact⟨rfl,by simpa using hf,HRb.out.trans HR.out⟩
theorem TP (name src:ByteArray) (n:Int) (Ac Ab Al:Option Addr) (nc cc nb cb nl cl:Nat) (op k:Int) (Ae:Option Addr) (ne ce:Nat) (T:List UInt8) (B:Bool) (g:Nat) (t:List UInt8) (br:Bool) (w:World) (h:bz g t br w) (h6:op≠6) (h7:op≠7) (hD:Does g w 115 #[.pointer (some ⟨g,0,none⟩),.agg #[.int .i64 op,.string name,.string src,.int .i64 n,.slice Ac nc cc,.slice Ae ne ce,.slice Ab nb cb,.slice Al nl cl]] T B)
  (hlen:t.length+(T++[59]).length≤1000000000) :
  Calls Tryz.prog 83 #[.pointer (some ⟨g,0,none⟩),.agg #[.int .i64 op,.string name,.string src,.int .i64 n,.slice Ac nc cc,.slice Ae ne ce,.slice Ab nb cb,.slice Al nl cl],.int .i64 k] w fun e' w'=>e'=.returned (.tuple #[])∧bz g (t++(T++[59])) (br||B) w'∧Wrote g w w':=by
 have n6:(op==6)=false:=by simpa using h6
 have n7:(op==7)=false:=by simpa using h7
 obtain⟨w1,Hw1⟩:∃ w1,Hid (w1=w.alloc (.cells #[.int .i64 op,.string name,.string src,.int .i64 n,.slice Ac nc cc,.slice Ae ne ce,.slice Ab nb cb,.slice Al nl cl] 49)):=⟨_,rfl⟩
 have hb1:Below w.heap.size w w1:=by rw[Hw1.out];exact(Below.refl _ _).alloc (Nat.le_refl _) _
 have hk1:af w1 w.heap.size 49 #[.int .i64 op,.string name,.string src,.int .i64 n,.slice Ac nc cc,.slice Ae ne ce,.slice Ab nb cb,.slice Al nl cl]:=by rw[Hw1.out];exact af.laid _ _ _
 have iV:=ae (Wrote.of_below (Nat.le_of_lt h.lt) hb1:Wrote g w w1)
 have Hx:=ae (fun W (hW:Wrote g w1 W)=>Dz (hW.2.2 _ _ _ (by decide) (by decide) hk1))
 have bU:=h.below hb1
 have iG:=ae (Wrote.refl g w1)
 have Hlen:=ae hlen
 have HD:=ae hD
 obtain⟨x0,x1,x2,x3,x4,x5,x6,x7,xl⟩:=Hx.out _ (Wrote.refl _ _)
 clear hk1 h hlen hb1 hD h6 h7
 go_enter Tryz.func83,Tryz.ntmps83
 go_upto_region 1 with (fail)
 rw[← Hw1.out]
 go_wp2_with (fail)
 refine(HD.out _ _ _ (iV.out.trans iG.out) bU (by have h9:=Hlen.out;simp at h9 ⊢;omega)).mono ?_
 rintro e' w2 ⟨rfl,bI,hr2⟩
 have gm:=ae (iG.out.trans hr2)
 clear x0 x1 x2 x3 x4 x5 x6 x7 xl bU hr2
 obtain⟨x0,x1,x2,x3,x4,x5,x6,x7,xl⟩:=Hx.out _ gm.out
 go_wp2_with (fail)
 refine(aF g 1 _ _ [⟨#[59]⟩] _ bI rfl (by decide) (by have h9:=Hlen.out;simp[aB] at h9 ⊢;omega)).mono ?_
 rintro e' w3 ⟨rfl,bH,hr3⟩
 have jm:=ae (gm.out.trans hr3)
 clear x0 x1 x2 x3 x4 x5 x6 x7 xl bI hr3
 obtain⟨x0,x1,x2,x3,x4,x5,x6,x7,xl⟩:=Hx.out _ jm.out
 have H:=ae (And.intro bH (iV.out.trans jm.out))
 clear bH x0 x1 x2 x3 x4 x5 x6 x7 xl
 go_wp2
 go_end0
 exact⟨rfl,by simpa [aB] using H.out.1,H.out.2⟩
theorem ahf (name src:ByteArray) (n:Int) (Ac Ab Al:Option Addr) (nc cc nb cb nl cl:Nat) (k:Int) (TB:List UInt8) (BB:Bool) (b o ne ce:Nat) (a1:Ex) (A1:Option Addr) (m1 c1:Nat) (T:List UInt8) (B:Bool) (g:Nat) (t:List UInt8) (br:Bool) (w:World) (h:bz g t br w) (hbg:b<g) (hne:1≤ne) (hS:Six w b o a1 A1 m1 c1) (hD:Does g w 68 #[.pointer (some ⟨g,0,none⟩),.string name,.string src,.agg (rowOf a1 A1 m1 c1).toArray] T B) (hB:Does g w 39 #[.pointer (some ⟨g,0,none⟩),.slice Ab nb cb,.int .i64 k] TB BB) (hn:n=0)
  (hlen:t.length+([102,111,114,32]++T++[32]++TB).length≤1000000000) :
  Calls Tryz.prog 83 #[.pointer (some ⟨g,0,none⟩),.agg #[.int .i64 6,.string name,.string src,.int .i64 n,.slice Ac nc cc,.slice (some ⟨b,o,none⟩) ne ce,.slice Ab nb cb,.slice Al nl cl],.int .i64 k] w fun e' w'=>e'=.returned (.tuple #[])∧bz g (t++([102,111,114,32]++T++[32]++TB)) (br||(B||BB)) w'∧Wrote g w w':=by
 subst hn
 obtain⟨w1,Hw1⟩:∃ w1,Hid (w1=w.alloc (.cells #[.int .i64 6,.string name,.string src,.int .i64 0,.slice Ac nc cc,.slice (some ⟨b,o,none⟩) ne ce,.slice Ab nb cb,.slice Al nl cl] 49)):=⟨_,rfl⟩
 have hb1:Below w.heap.size w w1:=by rw[Hw1.out];exact(Below.refl _ _).alloc (Nat.le_refl _) _
 have hk1:af w1 w.heap.size 49 #[.int .i64 6,.string name,.string src,.int .i64 0,.slice Ac nc cc,.slice (some ⟨b,o,none⟩) ne ce,.slice Ab nb cb,.slice Al nl cl]:=by rw[Hw1.out];exact af.laid _ _ _
 have iV:=ae (Wrote.of_below (Nat.le_of_lt h.lt) hb1:Wrote g w w1)
 have Hx:=ae (fun W (hW:Wrote g w1 W)=>Dz (hW.2.2 _ _ _ (by decide) (by decide) hk1))
 have bU:=h.below hb1
 have iG:=ae (Wrote.refl g w1)
 have Hlen:=ae hlen
 have HD:=ae hD
 have HS:=ae (fun W (hW:Wrote g w W)=>hS.wrote hbg hW)
 have Dv:=ae hbg
 have i1:0<ne:=by omega
 have HB:=ae hB
 obtain⟨x0,x1,x2,x3,x4,x5,x6,x7,xl⟩:=Hx.out _ (Wrote.refl _ _)
 clear hk1 h hlen hb1 hS hD hbg hne hB
 go_enter Tryz.func83,Tryz.ntmps83
 go_upto_region 1 with (fail)
 rw[← Hw1.out]
 go_wp2_with (fail)
 refine(aF g 1 _ _ [⟨#[102,111,114,32]⟩] _ bU rfl (by decide) (by have h9:=Hlen.out;simp[aB] at h9 ⊢;omega)).mono ?_
 rintro e' w2 ⟨rfl,bI,hr2⟩
 have gm:=ae (iG.out.trans hr2)
 clear x0 x1 x2 x3 x4 x5 x6 x7 xl bU hr2
 obtain⟨x0,x1,x2,x3,x4,x5,x6,x7,xl⟩:=Hx.out _ gm.out
 have hbd:=(Below.refl w2.heap.size w2).drew
 have hr3:=gm.out.trans (Wrote.of_below (Nat.le_of_lt bI.lt) hbd)
 have bH:=bI.below hbd
 have Dl:=ae (HD.out _ _ _ (iV.out.trans hr3) bH (by have h9:=Hlen.out;simp[aB] at h9 ⊢;omega))
 have jm:=ae hr3
 have TL:=ae bH.lt
 obtain⟨z0,z1,z2,z3,z4,z5⟩:=HS.out _ (iV.out.trans gm.out)
 have hbl:b<w2.heap.size:=by have:=Dv.out;have:=bI.lt;omega
 clear bI hbd hr3 bH
 go_upto_region 6 with (fail)
 go_still_tail 9,(by kernel_rfl)
 change wpList _ _ _ _ _ w2.drew
 generalize w2.drew=w3 at *
 clear x0 x1 x2 x3 x4 x5 x6 x7 xl z0 z1 z2 z3 z4 z5 hbl
 obtain⟨x0,x1,x2,x3,x4,x5,x6,x7,xl⟩:=Hx.out _ jm.out
 obtain⟨z0,z1,z2,z3,z4,z5⟩:=HS.out _ (iV.out.trans jm.out)
 have hbl:b<w3.heap.size:=by have:=Dv.out;have:=TL.out;omega
 go_wp2_with (fail)
 refine Dl.out.mono ?_
 rintro e' w4 ⟨rfl,bu,hr4⟩
 have jg:=ae (jm.out.trans hr4)
 clear x0 x1 x2 x3 x4 x5 x6 x7 xl z0 z1 z2 z3 z4 z5 hbl hr4
 obtain⟨x0,x1,x2,x3,x4,x5,x6,x7,xl⟩:=Hx.out _ jg.out
 go_wp2_with (fail)
 refine(aF g 1 _ _ [⟨#[32]⟩] _ bu rfl (by decide) (by have h9:=Hlen.out;simp[aB] at h9 ⊢;omega)).mono ?_
 rintro e' w5 ⟨rfl,di,jf⟩
 have lY:=ae (jg.out.trans jf)
 clear x0 x1 x2 x3 x4 x5 x6 x7 xl bu jf
 obtain⟨x0,x1,x2,x3,x4,x5,x6,x7,xl⟩:=Hx.out _ lY.out
 go_wp2_with (fail)
 refine(HB.out _ _ _ (iV.out.trans lY.out) di (by have h9:=Hlen.out;simp[aB] at h9 ⊢;omega)).mono ?_
 rintro e' w6 ⟨rfl,eG,lI⟩
 have Aj:=ae (lY.out.trans lI)
 clear x0 x1 x2 x3 x4 x5 x6 x7 xl di lI
 obtain⟨x0,x1,x2,x3,x4,x5,x6,x7,xl⟩:=Hx.out _ Aj.out
 have H:=ae (And.intro eG (iV.out.trans Aj.out))
 clear eG x0 x1 x2 x3 x4 x5 x6 x7 xl
 go_wp2
 go_end0
 exact⟨rfl,by simpa [aB,Bool.or_assoc] using H.out.1,H.out.2⟩
theorem adY (name src:ByteArray) (n:Int) (Ac Ab Al:Option Addr) (nc cc nb cb nl cl:Nat) (k:Int) (TB:List UInt8) (BB:Bool) (b o ne ce:Nat) (a1:Ex) (A1:Option Addr) (m1 c1:Nat) (T:List UInt8) (B:Bool) (g:Nat) (t:List UInt8) (br:Bool) (w:World) (h:bz g t br w) (hbg:b<g) (hne:1≤ne) (hS:Six w b o a1 A1 m1 c1) (hD:Does g w 68 #[.pointer (some ⟨g,0,none⟩),.string name,.string src,.agg (rowOf a1 A1 m1 c1).toArray] T B) (hB:Does g w 39 #[.pointer (some ⟨g,0,none⟩),.slice Ab nb cb,.int .i64 k] TB BB) (hn:0<n) (hn2:n≤1000)
  (hlen:t.length+([102,111,114,32]++T++([32,108,105,109,105,116,32]++dU n)++[32]++TB).length≤1000000000) :
  Calls Tryz.prog 83 #[.pointer (some ⟨g,0,none⟩),.agg #[.int .i64 6,.string name,.string src,.int .i64 n,.slice Ac nc cc,.slice (some ⟨b,o,none⟩) ne ce,.slice Ab nb cb,.slice Al nl cl],.int .i64 k] w fun e' w'=>e'=.returned (.tuple #[])∧bz g (t++([102,111,114,32]++T++([32,108,105,109,105,116,32]++dU n)++[32]++TB)) (br||(B||BB)) w'∧Wrote g w w':=by
 have RZ:=ae (fun W=>uh n W (by omega) (by omega))
 obtain⟨w1,Hw1⟩:∃ w1,Hid (w1=w.alloc (.cells #[.int .i64 6,.string name,.string src,.int .i64 n,.slice Ac nc cc,.slice (some ⟨b,o,none⟩) ne ce,.slice Ab nb cb,.slice Al nl cl] 49)):=⟨_,rfl⟩
 have hb1:Below w.heap.size w w1:=by rw[Hw1.out];exact(Below.refl _ _).alloc (Nat.le_refl _) _
 have hk1:af w1 w.heap.size 49 #[.int .i64 6,.string name,.string src,.int .i64 n,.slice Ac nc cc,.slice (some ⟨b,o,none⟩) ne ce,.slice Ab nb cb,.slice Al nl cl]:=by rw[Hw1.out];exact af.laid _ _ _
 have iV:=ae (Wrote.of_below (Nat.le_of_lt h.lt) hb1:Wrote g w w1)
 have Hx:=ae (fun W (hW:Wrote g w1 W)=>Dz (hW.2.2 _ _ _ (by decide) (by decide) hk1))
 have bU:=h.below hb1
 have iG:=ae (Wrote.refl g w1)
 have Hlen:=ae hlen
 have HD:=ae hD
 have HS:=ae (fun W (hW:Wrote g w W)=>hS.wrote hbg hW)
 have Dv:=ae hbg
 have i1:0<ne:=by omega
 have HB:=ae hB
 obtain⟨x0,x1,x2,x3,x4,x5,x6,x7,xl⟩:=Hx.out _ (Wrote.refl _ _)
 clear hk1 h hlen hb1 hS hD hbg hne hB
 go_enter Tryz.func83,Tryz.ntmps83
 go_upto_region 1 with (fail)
 rw[← Hw1.out]
 go_wp2_with (fail)
 refine(aF g 1 _ _ [⟨#[102,111,114,32]⟩] _ bU rfl (by decide) (by have h9:=Hlen.out;simp[aB] at h9 ⊢;omega)).mono ?_
 rintro e' w2 ⟨rfl,bI,hr2⟩
 have gm:=ae (iG.out.trans hr2)
 clear x0 x1 x2 x3 x4 x5 x6 x7 xl bU hr2
 obtain⟨x0,x1,x2,x3,x4,x5,x6,x7,xl⟩:=Hx.out _ gm.out
 have hbd:=(Below.refl w2.heap.size w2).drew
 have hr3:=gm.out.trans (Wrote.of_below (Nat.le_of_lt bI.lt) hbd)
 have bH:=bI.below hbd
 have Dl:=ae (HD.out _ _ _ (iV.out.trans hr3) bH (by have h9:=Hlen.out;simp[aB] at h9 ⊢;omega))
 have jm:=ae hr3
 have TL:=ae bH.lt
 obtain⟨z0,z1,z2,z3,z4,z5⟩:=HS.out _ (iV.out.trans gm.out)
 have hbl:b<w2.heap.size:=by have:=Dv.out;have:=bI.lt;omega
 clear bI hbd hr3 bH
 go_upto_region 6 with (fail)
 go_still_tail 9,(by kernel_rfl)
 change wpList _ _ _ _ _ w2.drew
 generalize w2.drew=w3 at *
 clear x0 x1 x2 x3 x4 x5 x6 x7 xl z0 z1 z2 z3 z4 z5 hbl
 obtain⟨x0,x1,x2,x3,x4,x5,x6,x7,xl⟩:=Hx.out _ jm.out
 obtain⟨z0,z1,z2,z3,z4,z5⟩:=HS.out _ (iV.out.trans jm.out)
 have hbl:b<w3.heap.size:=by have:=Dv.out;have:=TL.out;omega
 go_wp2_with (fail)
 refine Dl.out.mono ?_
 rintro e' w4 ⟨rfl,bu,hr4⟩
 have jg:=ae (jm.out.trans hr4)
 clear x0 x1 x2 x3 x4 x5 x6 x7 xl z0 z1 z2 z3 z4 z5 hbl hr4
 obtain⟨x0,x1,x2,x3,x4,x5,x6,x7,xl⟩:=Hx.out _ jg.out
 go_wp2_with (go_at_call 38;refine(RZ.out _).mono ?_)
 rintro x w5 ⟨rfl,hb5⟩
 have jf:Wrote g w4 w5:=Wrote.of_below (Nat.le_of_lt bu.lt) hb5
 have di:=bu.below hb5
 clear hb5
 have lY:=ae (jg.out.trans jf)
 clear x0 x1 x2 x3 x4 x5 x6 x7 xl bu jf
 obtain⟨x0,x1,x2,x3,x4,x5,x6,x7,xl⟩:=Hx.out _ lY.out
 go_wp2_with (fail)
 refine(aF g 2 _ _ [⟨#[32,108,105,109,105,116,32]⟩,⟨(dU n).toArray⟩] _ di rfl (by decide) (by have h9:=Hlen.out;simp[aB] at h9 ⊢;omega)).mono ?_
 rintro e' w6 ⟨rfl,eG,lI⟩
 have Aj:=ae (lY.out.trans lI)
 clear x0 x1 x2 x3 x4 x5 x6 x7 xl di lI
 obtain⟨x0,x1,x2,x3,x4,x5,x6,x7,xl⟩:=Hx.out _ Aj.out
 go_wp2_with (fail)
 refine(aF g 1 _ _ [⟨#[32]⟩] _ eG rfl (by decide) (by have h9:=Hlen.out;simp[aB] at h9 ⊢;omega)).mono ?_
 rintro e' w7 ⟨rfl,jo,rU⟩
 have NM:=ae (Aj.out.trans rU)
 clear x0 x1 x2 x3 x4 x5 x6 x7 xl eG rU
 obtain⟨x0,x1,x2,x3,x4,x5,x6,x7,xl⟩:=Hx.out _ NM.out
 go_wp2_with (fail)
 refine(HB.out _ _ _ (iV.out.trans NM.out) jo (by have h9:=Hlen.out;simp[aB] at h9 ⊢;omega)).mono ?_
 rintro e' w8 ⟨rfl,IV,VC⟩
 have Hr8:=ae (NM.out.trans VC)
 clear x0 x1 x2 x3 x4 x5 x6 x7 xl jo VC
 obtain⟨x0,x1,x2,x3,x4,x5,x6,x7,xl⟩:=Hx.out _ Hr8.out
 have H:=ae (And.intro IV (iV.out.trans Hr8.out))
 clear IV x0 x1 x2 x3 x4 x5 x6 x7 xl
 go_wp2
 go_end0
 exact⟨rfl,by simpa [aB,Bool.or_assoc] using H.out.1,H.out.2⟩
theorem ahg (name src:ByteArray) (n:Int) (Ac Ab Al:Option Addr) (nc cc nb cb nl cl:Nat) (k:Int) (TB:List UInt8) (BB:Bool) (b o ne ce:Nat) (a1:Ex) (A1:Option Addr) (m1 c1:Nat) (T:List UInt8) (B:Bool) (g:Nat) (t:List UInt8) (br:Bool) (w:World) (h:bz g t br w) (hbg:b<g) (hne:1≤ne) (hS:Six w b o a1 A1 m1 c1) (hD:Does g w 29 #[.pointer (some ⟨g,0,none⟩),.agg (rowOf a1 A1 m1 c1).toArray] T B) (hB:Does g w 39 #[.pointer (some ⟨g,0,none⟩),.slice Ab nb cb,.int .i64 k] TB BB) (hl:nl=0)
  (hlen:t.length+([105,102,32]++T++[32]++TB).length≤1000000000) :
  Calls Tryz.prog 83 #[.pointer (some ⟨g,0,none⟩),.agg #[.int .i64 7,.string name,.string src,.int .i64 n,.slice Ac nc cc,.slice (some ⟨b,o,none⟩) ne ce,.slice Ab nb cb,.slice Al nl cl],.int .i64 k] w fun e' w'=>e'=.returned (.tuple #[])∧bz g (t++([105,102,32]++T++[32]++TB)) (br||(B||BB)) w'∧Wrote g w w':=by
 subst hl
 obtain⟨w1,Hw1⟩:∃ w1,Hid (w1=w.alloc (.cells #[.int .i64 7,.string name,.string src,.int .i64 n,.slice Ac nc cc,.slice (some ⟨b,o,none⟩) ne ce,.slice Ab nb cb,.slice Al 0 cl] 49)):=⟨_,rfl⟩
 have hb1:Below w.heap.size w w1:=by rw[Hw1.out];exact(Below.refl _ _).alloc (Nat.le_refl _) _
 have hk1:af w1 w.heap.size 49 #[.int .i64 7,.string name,.string src,.int .i64 n,.slice Ac nc cc,.slice (some ⟨b,o,none⟩) ne ce,.slice Ab nb cb,.slice Al 0 cl]:=by rw[Hw1.out];exact af.laid _ _ _
 have iV:=ae (Wrote.of_below (Nat.le_of_lt h.lt) hb1:Wrote g w w1)
 have Hx:=ae (fun W (hW:Wrote g w1 W)=>Dz (hW.2.2 _ _ _ (by decide) (by decide) hk1))
 have bU:=h.below hb1
 have iG:=ae (Wrote.refl g w1)
 have Hlen:=ae hlen
 have HD:=ae hD
 have HS:=ae (fun W (hW:Wrote g w W)=>hS.wrote hbg hW)
 have Dv:=ae hbg
 have i1:0<ne:=by omega
 have HB:=ae hB
 obtain⟨x0,x1,x2,x3,x4,x5,x6,x7,xl⟩:=Hx.out _ (Wrote.refl _ _)
 clear hk1 h hlen hb1 hS hD hbg hne hB
 go_enter Tryz.func83,Tryz.ntmps83
 go_upto_region 1 with (fail)
 rw[← Hw1.out]
 go_wp2_with (fail)
 refine(aF g 1 _ _ [⟨#[105,102,32]⟩] _ bU rfl (by decide) (by have h9:=Hlen.out;simp[aB] at h9 ⊢;omega)).mono ?_
 rintro e' w2 ⟨rfl,bI,hr2⟩
 have gm:=ae (iG.out.trans hr2)
 clear x0 x1 x2 x3 x4 x5 x6 x7 xl bU hr2
 obtain⟨x0,x1,x2,x3,x4,x5,x6,x7,xl⟩:=Hx.out _ gm.out
 obtain⟨z0,z1,z2,z3,z4,z5⟩:=HS.out _ (iV.out.trans gm.out)
 have hbl:b<w2.heap.size:=by have:=Dv.out;have:=bI.lt;omega
 go_wp2_with (fail)
 refine(HD.out _ _ _ (iV.out.trans gm.out) bI (by have h9:=Hlen.out;simp[aB] at h9 ⊢;omega)).mono ?_
 rintro e' w3 ⟨rfl,bH,hr3⟩
 have jm:=ae (gm.out.trans hr3)
 clear x0 x1 x2 x3 x4 x5 x6 x7 xl bI hr3
 obtain⟨x0,x1,x2,x3,x4,x5,x6,x7,xl⟩:=Hx.out _ jm.out
 clear z0 z1 z2 z3 z4 z5 hbl
 go_wp2_with (fail)
 refine(aF g 1 _ _ [⟨#[32]⟩] _ bH rfl (by decide) (by have h9:=Hlen.out;simp[aB] at h9 ⊢;omega)).mono ?_
 rintro e' w4 ⟨rfl,bu,hr4⟩
 have jg:=ae (jm.out.trans hr4)
 clear x0 x1 x2 x3 x4 x5 x6 x7 xl bH hr4
 obtain⟨x0,x1,x2,x3,x4,x5,x6,x7,xl⟩:=Hx.out _ jg.out
 go_wp2_with (fail)
 refine(HB.out _ _ _ (iV.out.trans jg.out) bu (by have h9:=Hlen.out;simp[aB] at h9 ⊢;omega)).mono ?_
 rintro e' w5 ⟨rfl,di,jf⟩
 have lY:=ae (jg.out.trans jf)
 clear x0 x1 x2 x3 x4 x5 x6 x7 xl bu jf
 obtain⟨x0,x1,x2,x3,x4,x5,x6,x7,xl⟩:=Hx.out _ lY.out
 have H:=ae (And.intro di (iV.out.trans lY.out))
 clear di
 go_wp2
 go_end0
 exact⟨rfl,by simpa [aB,Bool.or_assoc] using H.out.1,H.out.2⟩
theorem adZ (name src:ByteArray) (n:Int) (Ac Ab Al:Option Addr) (nc cc nb cb nl cl:Nat) (k:Int) (TB:List UInt8) (BB:Bool) (TE:List UInt8) (BE:Bool) (b o ne ce:Nat) (a1:Ex) (A1:Option Addr) (m1 c1:Nat) (T:List UInt8) (B:Bool) (g:Nat) (t:List UInt8) (br:Bool) (w:World) (h:bz g t br w) (hbg:b<g) (hne:1≤ne) (hS:Six w b o a1 A1 m1 c1) (hD:Does g w 29 #[.pointer (some ⟨g,0,none⟩),.agg (rowOf a1 A1 m1 c1).toArray] T B) (hB:Does g w 39 #[.pointer (some ⟨g,0,none⟩),.slice Ab nb cb,.int .i64 k] TB BB) (hB2:Does g w 39 #[.pointer (some ⟨g,0,none⟩),.slice Al nl cl,.int .i64 k] TE BE) (hl:0<nl)
  (hlen:t.length+([105,102,32]++T++[32]++TB++([32,101,108,115,101,32]++TE)).length≤1000000000) :
  Calls Tryz.prog 83 #[.pointer (some ⟨g,0,none⟩),.agg #[.int .i64 7,.string name,.string src,.int .i64 n,.slice Ac nc cc,.slice (some ⟨b,o,none⟩) ne ce,.slice Ab nb cb,.slice Al nl cl],.int .i64 k] w fun e' w'=>e'=.returned (.tuple #[])∧bz g (t++([105,102,32]++T++[32]++TB++([32,101,108,115,101,32]++TE))) (br||(B||BB||BE)) w'∧Wrote g w w':=by
 have HB2:=ae hB2
 obtain⟨w1,Hw1⟩:∃ w1,Hid (w1=w.alloc (.cells #[.int .i64 7,.string name,.string src,.int .i64 n,.slice Ac nc cc,.slice (some ⟨b,o,none⟩) ne ce,.slice Ab nb cb,.slice Al nl cl] 49)):=⟨_,rfl⟩
 have hb1:Below w.heap.size w w1:=by rw[Hw1.out];exact(Below.refl _ _).alloc (Nat.le_refl _) _
 have hk1:af w1 w.heap.size 49 #[.int .i64 7,.string name,.string src,.int .i64 n,.slice Ac nc cc,.slice (some ⟨b,o,none⟩) ne ce,.slice Ab nb cb,.slice Al nl cl]:=by rw[Hw1.out];exact af.laid _ _ _
 have iV:=ae (Wrote.of_below (Nat.le_of_lt h.lt) hb1:Wrote g w w1)
 have Hx:=ae (fun W (hW:Wrote g w1 W)=>Dz (hW.2.2 _ _ _ (by decide) (by decide) hk1))
 have bU:=h.below hb1
 have iG:=ae (Wrote.refl g w1)
 have Hlen:=ae hlen
 have HD:=ae hD
 have HS:=ae (fun W (hW:Wrote g w W)=>hS.wrote hbg hW)
 have Dv:=ae hbg
 have i1:0<ne:=by omega
 have HB:=ae hB
 obtain⟨x0,x1,x2,x3,x4,x5,x6,x7,xl⟩:=Hx.out _ (Wrote.refl _ _)
 clear hk1 h hlen hb1 hS hD hbg hne hB hB2
 go_enter Tryz.func83,Tryz.ntmps83
 go_upto_region 1 with (fail)
 rw[← Hw1.out]
 go_wp2_with (fail)
 refine(aF g 1 _ _ [⟨#[105,102,32]⟩] _ bU rfl (by decide) (by have h9:=Hlen.out;simp[aB] at h9 ⊢;omega)).mono ?_
 rintro e' w2 ⟨rfl,bI,hr2⟩
 have gm:=ae (iG.out.trans hr2)
 clear x0 x1 x2 x3 x4 x5 x6 x7 xl bU hr2
 obtain⟨x0,x1,x2,x3,x4,x5,x6,x7,xl⟩:=Hx.out _ gm.out
 obtain⟨z0,z1,z2,z3,z4,z5⟩:=HS.out _ (iV.out.trans gm.out)
 have hbl:b<w2.heap.size:=by have:=Dv.out;have:=bI.lt;omega
 go_wp2_with (fail)
 refine(HD.out _ _ _ (iV.out.trans gm.out) bI (by have h9:=Hlen.out;simp[aB] at h9 ⊢;omega)).mono ?_
 rintro e' w3 ⟨rfl,bH,hr3⟩
 have jm:=ae (gm.out.trans hr3)
 clear x0 x1 x2 x3 x4 x5 x6 x7 xl bI hr3
 obtain⟨x0,x1,x2,x3,x4,x5,x6,x7,xl⟩:=Hx.out _ jm.out
 clear z0 z1 z2 z3 z4 z5 hbl
 go_wp2_with (fail)
 refine(aF g 1 _ _ [⟨#[32]⟩] _ bH rfl (by decide) (by have h9:=Hlen.out;simp[aB] at h9 ⊢;omega)).mono ?_
 rintro e' w4 ⟨rfl,bu,hr4⟩
 have jg:=ae (jm.out.trans hr4)
 clear x0 x1 x2 x3 x4 x5 x6 x7 xl bH hr4
 obtain⟨x0,x1,x2,x3,x4,x5,x6,x7,xl⟩:=Hx.out _ jg.out
 go_wp2_with (fail)
 refine(HB.out _ _ _ (iV.out.trans jg.out) bu (by have h9:=Hlen.out;simp[aB] at h9 ⊢;omega)).mono ?_
 rintro e' w5 ⟨rfl,di,jf⟩
 have lY:=ae (jg.out.trans jf)
 clear x0 x1 x2 x3 x4 x5 x6 x7 xl bu jf
 obtain⟨x0,x1,x2,x3,x4,x5,x6,x7,xl⟩:=Hx.out _ lY.out
 go_wp2_with (fail)
 refine(aF g 1 _ _ [⟨#[32,101,108,115,101,32]⟩] _ di rfl (by decide) (by have h9:=Hlen.out;simp[aB] at h9 ⊢;omega)).mono ?_
 rintro e' w6 ⟨rfl,eG,lI⟩
 have Aj:=ae (lY.out.trans lI)
 clear x0 x1 x2 x3 x4 x5 x6 x7 xl di lI
 obtain⟨x0,x1,x2,x3,x4,x5,x6,x7,xl⟩:=Hx.out _ Aj.out
 go_wp2_with (fail)
 refine(HB2.out _ _ _ (iV.out.trans Aj.out) eG (by have h9:=Hlen.out;simp[aB] at h9 ⊢;omega)).mono ?_
 rintro e' w7 ⟨rfl,jo,rU⟩
 have NM:=ae (Aj.out.trans rU)
 clear x0 x1 x2 x3 x4 x5 x6 x7 xl eG rU
 obtain⟨x0,x1,x2,x3,x4,x5,x6,x7,xl⟩:=Hx.out _ NM.out
 have H:=ae (And.intro jo (iV.out.trans NM.out))
 clear jo x0 x1 x2 x3 x4 x5 x6 x7 xl
 go_wp2
 go_end0
 exact⟨rfl,by simpa [aB,Bool.or_assoc] using H.out.1,H.out.2⟩
end Go.Proofs.YtjjfkhbajidmdaaGreatDoor
