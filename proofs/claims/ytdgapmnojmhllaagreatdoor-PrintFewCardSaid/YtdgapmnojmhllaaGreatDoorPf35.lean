/- Parts of this proof, one behind the other: RfC, RtM, ParRe, ParZ8, ParZ9, RtN, RtO, RtP. -/
import Derived.Test.YtdgapmnojmhllaaGreatDoorPf32
import Derived.Test.YtdgapmnojmhllaaGreatDoorPf34
import Derived.Test.YtdgapmnojmhllaaGreatDoorPf24
import Derived.Test.YtdgapmnojmhllaaGreatDoorPf28
import Derived.Test.YtdgapmnojmhllaaGreatDoorPf5
import Derived.Deep.Cut
set_option maxRecDepth 1000000
set_option maxHeartbeats 40000000
namespace Go.Proofs.YtdgapmnojmhllaaGreatDoor
open Go.RowKit Go.Afx
theorem lexH_fuel:∀ (f f' a:Nat) (s:List UInt8),s.length<f→s.length<f'→lexH f a s=lexH f' a s:=by
 intro f
 induction f with
 | zero=>intro f' a s h;omega
 | succ f ih =>
  intro f' a s h1 h2
  obtain⟨f',rfl⟩:∃ m,f'=m+1:=⟨f'-1,by omega⟩
  by_cases hs:s=[]
  ·subst hs;rfl
  ·rw[lexH_go _ _ _ hs,lexH_go _ _ _ hs]
   cases hn:nextX s with
   | none=>rfl
   | some x =>
    obtain⟨l1,l2⟩:=next_len hn
    simp only
    rw[ih f' _ _ (by rw[List.length_drop,List.length_drop];omega) (by rw[List.length_drop,List.length_drop];omega)]
def lexA (at_:Nat) (s:List UInt8):Nat ⊕ List Wd:=lexH (s.length+1) (at_+blk false s) (s.drop (blk false s))
theorem lexA_all (s:List UInt8):lexL s=lexA 0 s:=by
 unfold lexL lexA
 rw[Nat.zero_add]
theorem lexA_nil (at_:Nat):lexA at_ []=.inr []:=rfl
theorem lexA_same {a b:Nat} {s t:List UInt8} (h1:a+blk false s=b+blk false t) (h2:s.drop (blk false s)=t.drop (blk false t)):lexA a s=lexA b t:=by
 unfold lexA
 rw[h1,h2]
 exact lexH_fuel _ _ _ _ (by rw[← h2,List.length_drop];omega) (by rw[List.length_drop];omega)
theorem lexA_blank {at_:Nat} {c:UInt8} {r:List UInt8} (h:wsB c=true):lexA at_ (c::r)=lexA (at_+1) r:=by
 have e:blk false (c::r)=blk false r+1:=by rw[blk,if_pos h,Nat.add_comm]
 refine lexA_same (by omega) ?_
 rw[e,List.drop_succ_cons]
def remL (s:List UInt8):Nat:=(s.takeWhile fun c=>decide (c≠10)).length
theorem blk_remark:∀ s:List UInt8,blk true s=remL s+blk false (s.drop (remL s)):=by
 intro s
 induction s with
 | nil=>rfl
 | cons c r ih =>
  by_cases h:c=10
  ·subst h
   have e:remL (10::r)=0:=rfl
   rw[e,List.drop_zero,Nat.zero_add]
   rfl
  ·have h10:c.toNat≠10:=fun e=>h (UInt8.toNat_inj.1 e)
   have e:remL (c::r)=remL r+1:=by
    unfold remL
    rw[List.takeWhile_cons,if_pos (by simpa using h),List.length_cons]
   rw[e,List.drop_succ_cons,blk,if_neg h10,ih]
   omega
theorem lexA_remark {at_:Nat} {r:List UInt8}:lexA at_ (47::47::r)=lexA (at_+remL (47::47::r)) ((47::47::r).drop (remL (47::47::r))):=by
 have e:blk false (47::47::r)=remL (47::47::r)+blk false ((47::47::r).drop (remL (47::47::r))):=by
  rw[← blk_remark]
  rfl
 refine lexA_same (by omega) ?_
 rw[e,← List.drop_drop]
theorem lexA_word {at_:Nat} {c:UInt8} {r:List UInt8} (h:wsB c=false) (h2:¬ (c.toNat=47∧r.head?=some 47)):lexA at_ (c::r)=match nextX (c::r) with
  | none=>.inl at_
  | some x=>conX ⟨x.kind,str x.text,x.n,at_⟩ (lexA (at_+x.len) ((c::r).drop x.len)):=by
 have e:blk false (c::r)=0:=by rw[blk,if_neg (by rw[h];decide),if_neg h2]
 have e1:lexA at_ (c::r)=lexH ((c::r).length+1) at_ (c::r):=by unfold lexA;rw[e];rfl
 rw[e1,lexH_go _ _ _ (List.cons_ne_nil c r)]
 cases hn:nextX (c::r) with
 | none=>rfl
 | some x =>
  obtain⟨l1,l2⟩:=next_len hn
  simp only
  unfold lexA
  rw[lexH_fuel (c::r).length (((c::r).drop x.len).length+1) _ _ (by rw[List.length_drop,List.length_drop];omega) (by rw[List.length_drop];omega)]
def NumS:Nat→St→Prop
 | 0,_=>True
 | d+1,x=>(∀ e∈x.exprs,NumE d e)∧(∀ b∈x.body,NumS d b)∧∀ b∈x.els,NumS d b
def setTx (d:Nat) (x:ByteArray×Ex):List UInt8:=x.1.data.toList++[32,61,32]++txtE d x.2
def limitT (n:Int):List UInt8:=if 0<n then [32,108,105,109,105,116,32]++decS n else []
def rgtE (d:Nat) (e:Ex):Bool:=smallZ (sizeE d 0 e)&&builtE d e
theorem ret_bb {a b:Bool} (h:a=b):Ending.returned (.bool a)=.returned (.bool b):=by rw[h]
theorem rgtE_any (F:Nat→Prop) (d:Nat) (e:Ex) (row:List Value) (w:World) (h:ExAt F d w row e) (hd:d≤10000) :
  Calls Tryz.prog 19 #[.agg row.toArray] w fun x w'=>x=.returned (.bool (rgtE d e))∧Below w.heap.size w w':=by
 have hq:rgtE d e=(smallZ (sizeE d 0 e)&&builtE d e):=rfl
 obtain⟨A,m,c,hrow⟩:=ex_row6 h
 obtain⟨w1,Hw1⟩:∃ w1,Hid (w1=w.alloc (.cells row.toArray 32)):=⟨_,rfl⟩
 have hb1:Below w.heap.size w w1:=by rw[Hw1.out];exact(Below.refl _ _).alloc (Nat.le_refl _) _
 have hk1:IsBlk w1 w.heap.size 32 row.toArray:=by rw[Hw1.out];exact IsBlk.laid _ _ _
 have Hx:=Lhd (fun W (hW:Below w1.heap.size w1 W)=>(show IsBlk W w.heap.size 32 row.toArray from hk1.as_was (hW.block _ hk1.lt)))
 have Hs:=Lhd (sizeE_any F d e row 0 w1 (h.below hb1) (by omega) (by omega))
 have Hb:=Lhd (fun W (hW:Below w.heap.size w W)=>builtE_any F d e row W (h.below hW))
 have Hb1:=Lhd hb1
 subst hrow
 generalize sizeE d 0 e=s at *
 generalize builtE d e=qb at *
 generalize rgtE d e=fin at *
 have Hfin:=Lhd hq
 obtain⟨s1,s2⟩:=s
 clear hq h hb1 hk1
 go_enter Tryz.func19,Tryz.ntmps19
 go_upto_region 1 with (fail)
 rw[← Hw1.out]
 obtain⟨x0,x1,x2,x3,x4,x5,xl⟩:=cells6 (Hx.out _ (Below.refl _ _))
 go_upto_region 2 with (go_at_call 42;refine Hs.out.mono ?_;rintro x w2 ⟨rfl,hb2⟩)
 have hk:IsBlk (w2.alloc (.cells #[.int .i64 s1,.int .i64 s2] 103)) w2.heap.size 103 #[.int .i64 s1,.int .i64 s2]:=IsBlk.laid _ _ _
 have hb3:Below w1.heap.size w1 (w2.alloc (.cells #[.int .i64 s1,.int .i64 s2] 103)):=hb2.alloc hb2.size _
 generalize w2.alloc (.cells #[.int .i64 s1,.int .i64 s2] 103)=w3 at *
 have Hs3:=Lhd (small_any _ s1 s2 w3 hk)
 have hbb:=Hb1.out.trans (hb3.mono Hb1.out.size)
 have Hb3:=Lhd (And.intro (Hb.out _ hbb) hbb)
 clear x0 x1 x2 x3 x4 x5 xl
 obtain⟨x0,x1,x2,x3,x4,x5,xl⟩:=cells6 (Hx.out _ hb3)
 have hkl:=hk.lt
 clear hk hb2 hb3 hbb
 generalize smallZ (s1,s2)=qs at *
 cases qs
 ·go_wp2_with (go_at_call 43;refine Hs3.out.mono ?_;rintro x w' ⟨rfl,rfl⟩)
  go_ret
  exact⟨ret_bb (by rw[Hfin.out];simp),Hb3.out.2⟩
 ·go_wp2_with (first|(go_at_call 43;refine Hs3.out.mono ?_;rintro x w' ⟨rfl,rfl⟩)|(go_at_call 44;refine Hb3.out.1.mono ?_;rintro x w4 ⟨rfl,hb4⟩))
  go_ret
  exact⟨ret_bb (by rw[Hfin.out];simp),Hb3.out.2.trans (hb4.mono Hb3.out.2.size)⟩
def exprX (L:List UInt8):Ex×Int×Int:=textX ex0 (rgtE 9000) expr1 L
theorem exprClo_any (gp gc gw gx:Nat) (W:Wds) (s:PSt) (w:World) (cs:Array Value) (h:PAt gp gc gw W s w) (hx:IsBlk w gx 32 cs) (hcs:cs.size=6) (hg:gp≠gx∧gc≠gx∧gw≠gx) :
  Calls Tryz.prog 23 #[.pointer (some ⟨gp,0,none⟩),.pointer (some ⟨gx,0,none⟩)] w fun e w'=>e=.returned (.tuple #[])∧(∃ row D,IsBlk w' gx 32 row.toArray∧ExAt (Fr w) D w' row (expr1 W s).1)∧PAt gp gc gw W (expr1 W s).2 w'∧But (fun k=>k=gp∨k=gc∨k=gx) w w':=by
 have hp:=pExpr1_any gp gc gw W s w h
 generalize expr1 W s=fin at *
 obtain⟨v0,v1,v2,v3,v4,v5,rfl⟩:∃ v0 v1 v2 v3 v4 v5,cs=#[v0,v1,v2,v3,v4,v5]:=by
  obtain⟨l⟩:=cs
  match l,hcs with
  | [a,b,c,d,e,f],_=>exact⟨a,b,c,d,e,f,rfl⟩
 have Hp:=Lhd hp
 have Hx:=Lhd hx
 have hlt:=hx.lt
 clear hp hx h
 go_enter Tryz.func23,Tryz.ntmps23
 go_wp2_with (fail)
 refine Hp.out.mono ?_
 rintro e w2 ⟨row,D,rfl,hpr,hP,hB⟩
 have hk2:=Hx.out.as_was (hB.block _ Hx.out.lt (by rintro(e|e)<;>omega))
 obtain⟨x0,x1,x2,x3,x4,x5,xl⟩:=cells6 hk2
 have fx:=hk2.frozen
 obtain⟨A,m,c,rfl⟩:=ex_row6 hpr
 have H2:=Lhd (And.intro hpr (And.intro hP (And.intro hB hk2)))
 clear hpr hP hB hk2
 go_wp2
 rw[lay6_eq]
 refine bodyPost_end (results_none rfl _ _ _) rfl ?_
 have hb7:=lay6_but w2 gx (.int .i64 fin.1.op) (.int .i64 fin.1.n) (.string fin.1.s) (.string fin.1.name) (.string fin.1.src) (.slice A m c)
 refine⟨rfl,⟨_,D,lay6_blk _ _ _ _ _ _ H2.out.2.2.2,?_⟩,H2.out.2.1.aside hb7 hg,((H2.out.2.2.1.mono (fun i hi=>.inl (by rcases hi with e|e;exact .inl e;exact .inr (.inl e)))).trans hb7 (fun i hi=>.inl (.inr (.inr hi))))⟩
 exact ExAt.conv (fun _ h=>h) (Kept.of_but hb7 fun k (hk:w.heap.size≤k) e=>by omega) D (Nat.le_refl D) H2.out.1
theorem rightExpr_clo (F:Nat→Prop) (gx:Nat) (p:Ex) (row:List Value) (w:World) (hx:IsBlk w gx 32 row.toArray) (h:ExAt F 9000 w row p) :
  Calls Tryz.prog 25 #[.pointer (some ⟨gx,0,none⟩)] w fun e w'=>e=.returned (.bool (rgtE 9000 p))∧Below w.heap.size w w':=by
 have hr:=rgtE_any F 9000 p row w h (by omega)
 obtain⟨A,m,c,rfl⟩:=ex_row6 h
 obtain⟨x0,x1,x2,x3,x4,x5,xl⟩:=cells6 hx
 generalize rgtE 9000 p=q at *
 have Hr:=Lhd hr
 clear hr hx
 go_enter Tryz.func25,Tryz.ntmps25
 go_wp2_with (fail)
 refine Hr.out.mono ?_
 rintro e w2 ⟨rfl,hb⟩
 have Hb:=Lhd hb
 clear hb
 go_wp2
 go_ret
 exact⟨rfl,Hb.out⟩
def SaidExpr (gx:Nat) (w:World) (x:Ex×Int×Int) (e:Ending) (w':World):Prop:=e=.returned (.tuple #[.int .i64 x.2.1,.int .i64 x.2.2])∧But (fun k=>k=gx) w w'∧(x.2.2=0→(∃ row,IsBlk w' gx 32 row.toArray∧ExAt (Fr w) 9000 w' row x.1))
theorem parsedExpr_any (s:ByteArray) (gx g0:Nat) (w:World) (hx:IsBlk w gx 32 zero6) (h0:g0<w.heap.size∧g0≠gx) :
  Calls Tryz.prog 22 #[.string s,.func (.func 23) #[] #[.pointer (some ⟨gx,0,none⟩)],.func (.func 25) #[] #[.pointer (some ⟨gx,0,none⟩)]] w (SaidExpr gx w (exprX s.data.toList)):=by
 have hwd:=lexWords_any s w
 have Hx:=Lhd hx
 unfold WordsSaid at hwd
 rw[szl] at hwd
 rcases Nat.lt_or_ge 8000 s.size with h8|h8
 ·simp only[if_pos h8] at hwd
  have e:exprX s.data.toList=(ex0,0,5):=textX_long (by rw[szl];exact h8)
  rw[e]
  have Hwd:=Lhd hwd
  clear hwd hx h0 h8 e
  go_enter Tryz.func22,Tryz.ntmps22
  go_wp2_with (fail)
  refine Hwd.out.mono ?_
  rintro e w1 ⟨rfl,hb⟩
  have Hb:=Lhd hb
  clear hb
  go_wp2
  go_ret2
  exact⟨rfl,But.of_below Hb.out,fun h=>by cases h⟩
 ·have h8n:¬ 8000<s.size:=by omega
  simp only[if_neg h8n] at hwd
  cases hl:lexL s.data.toList with
  | inl a =>
   rw[hl] at hwd
   have e:exprX s.data.toList=(ex0,(a:Int),12):=textX_inl (by rw[szl];exact h8n) hl
   rw[e]
   have Hwd:=Lhd hwd
   clear hwd hx h0 h8 h8n e hl
   go_enter Tryz.func22,Tryz.ntmps22
   go_wp2_with (fail)
   refine Hwd.out.mono ?_
   rintro e w1 ⟨hS,hb⟩
   have hS:e=.returned (.tuple #[.slice none 0 0,.int .i64 a,.int .i64 12]):=hS
   subst hS
   have Hb:=Lhd hb
   clear hb
   go_wp2
   go_ret2
   exact⟨rfl,But.of_below Hb.out,fun h=>by cases h⟩
  | inr ws =>
   rw[hl] at hwd
   have e:exprX s.data.toList=endX ex0 (rgtE 9000) ⟨ws,s.data.toList.length⟩ (expr1 ⟨ws,s.data.toList.length⟩ PSt.start):=textX_inr (by rw[szl];exact h8n) hl
   rw[szl] at e
   rw[e]
   have Hwd:=Lhd hwd
   obtain⟨W,HW⟩:∃ W:Wds,Hid (W=⟨ws,s.size⟩):=⟨_,rfl⟩
   rw[← HW.out]
   have hWl:W.l=ws:=by rw[HW.out]
   have hWe:W.end_=s.size:=by rw[HW.out]
   have HWl:=Lhd (And.intro hWl hWe)
   have H8:=Lhd h8
   have H0:=Lhd h0
   clear hwd hx h0 h8 h8n e hl hWl hWe
   go_enter Tryz.func22,Tryz.ntmps22
   go_wp2_with (fail)
   refine Hwd.out.mono ?_
   rintro e w1 ⟨⟨A,c,rfl,hown,hok,hlen⟩,hb1⟩
   have hon:=on_any w.heap.size g0 A c W w1 (by rw[HWl.out.1];have:=H8.out;omega) (by rw[HWl.out.1];exact hown) (by rw[HWl.out.1];exact hok) (by rw[HWl.out.2];have:=H8.out;unfold okI;omega) (Nat.lt_of_lt_of_le H0.out.1 hb1.size)
   rw[HWl.out.1,HWl.out.2] at hon
   have H1:=Lhd (And.intro hb1 hlen)
   have Hon:=Lhd hon
   clear hown hok hlen hb1 hon
   go_wp2_with (fail)
   refine Hon.out.mono ?_
   rintro e w2 ⟨gc,gw,rfl,hcu,hgw,hgw2,hgc,hb2⟩
   have hx2:=(Hx.out.as_was (H1.out.1.block _ Hx.out.lt)).as_was (hb2.block _ (Nat.lt_of_lt_of_le Hx.out.lt H1.out.1.size))
   have hal:=(Below.refl w2.heap.size w2).alloc (Nat.le_refl _) (.cells #[.pointer (some ⟨gc,0,none⟩),.int .i64 0,.bool false,.bool false] 123)
   have hz1:=H1.out.1.size
   have hz2:=hb2.size
   have hz0:=H0.out
   have hzx:=Hx.out.lt
   have hgcl:=hcu.lt
   have hoff:=hcu.off
   obtain⟨gp,Hgp⟩:∃ gp,Hid (gp=w2.heap.size):=⟨_,rfl⟩
   have hP:PAt gp gc gw W PSt.start (w2.alloc (.cells #[.pointer (some ⟨gc,0,none⟩),.int .i64 0,.bool false,.bool false] 123)):=by
    rw[Hgp.out]
    exact⟨IsBlk.laid _ _ _,hcu.below hal,by omega,by omega,by simp;omega⟩
   have hx3:=hx2.alloc (.cells #[.pointer (some ⟨gc,0,none⟩),.int .i64 0,.bool false,.bool false] 123)
   have hb3:=H1.out.1.trans ((hb2.trans (hal.mono hz2)).mono hz1)
   obtain⟨w3,Hw3⟩:∃ w3,Hid (w3=w2.alloc (.cells #[.pointer (some ⟨gc,0,none⟩),.int .i64 0,.bool false,.bool false] 123)):=⟨_,rfl⟩
   rw[← Hw3.out] at hP hx3 hb3
   have hne:gp≠gx∧gc≠gx∧gw≠gx:=by have:=Hgp.out;refine⟨by omega,by omega,?_⟩;rcases hgw2 with e|e<;>omega
   have hfr:w.heap.size≤gp∧w.heap.size≤gc:=by have:=Hgp.out;omega
   have hW:W.l.length≤1000000:=by rw[HWl.out.1];have:=H1.out.2;have:=H8.out;omega
   have hclo:=exprClo_any gp gc gw gx W PSt.start w3 _ hP hx3 rfl hne
   have hat8:∀ t:PSt,t.at_≤W.l.length→t.at_≤8000:=fun t ht=>by rw[HWl.out.1] at ht;have:=H1.out.2;have:=H8.out;omega
   have hlow:=fun w' row D (h:ExAt (Fr w3) D w' row (expr1 W PSt.start).1) (ht:(expr1 W PSt.start).2.at_≤W.l.length)=>expr_low W PSt.start h (by have:=hat8 _ ht;omega)
   have H3:=Lhd (And.intro hP (And.intro hb3 (And.intro hne hfr)))
   generalize expr1 W PSt.start=r at *
   obtain⟨p,t⟩:=r
   simp only at hlow hclo
   have Hclo:=Lhd hclo
   have Hlow:=Lhd hlow
   clear hcu hgw hgw2 hgc hb2 hx2 hal hz1 hz2 hz0 hzx hgcl hoff hP hx3 hb3 hne hfr hclo hlow hat8 hW
   go_upto_region 5 with (fail)
   rw[← Hw3.out,← Hgp.out]
   go_wp2_with (fail)
   refine Hclo.out.mono ?_
   rintro e w4 ⟨rfl,⟨row,D,hxr,hpr⟩,hP,hB⟩
   obtain⟨d0,d1,d2,d3,dg⟩:=cells4 hP.blk
   have hpr9:=Hlow.out w4 row D hpr hP.le
   have hB0:But (fun k=>k=gx) w w4:=(But.of_below H3.out.2.1).trans hB (fun i hi=>by have:=H3.out.2.2.2;rcases hi with e|e|e;exact .inr (by omega);exact .inr (by omega);exact .inl e)
   have H4:=Lhd (And.intro hP (And.intro hxr (And.intro hpr9 hB0)))
   clear hpr hpr9 hB hB0 hxr
   cases hov:t.over with
   | true =>
    rw[hov] at d2
    have e:endX ex0 (rgtE 9000) W (p,t)=(ex0,0,14):=by unfold endX;rw[if_pos hov]
    have He:=Lhd e
    clear hov e hP
    go_wp2
    go_ret2
    rw[He.out]
    exact⟨rfl,H4.out.2.2.2,fun h=>by cases h⟩
   | false =>
    rw[hov] at d2
    have hlf:=left_any _ gc t.at_ W w4 hP.cu
    have hwo:=fun w5 (h5:PAt gp gc gw W t w5)=>word_any _ gc t.at_ W w5 h5.cu
    have Hlf:=Lhd hlf
    have Hwo:=Lhd hwo
    clear hlf hwo
    have hbadE:(t.bad||decide (t.at_<W.l.length))=true→endX ex0 (rgtE 9000) W (p,t)=(ex0,(W.look t.at_).at_,12):=fun h=>by
     unfold endX
     rw[if_neg (by rw[hov];decide),if_pos h]
    have hfd:∀ (a:Int) (b:ByteArray) (c d:Int) (W:World),(Instr.field 125 (.agg #[.int .i64 a,.string b,.int .i64 c,.int .i64 d]) 3).run Tryz.prog W=.ok (.int .i64 d) W:=fun _ _ _ _ _=>by kernel_rfl
    cases hbad:t.bad with
    | true =>
     rw[hbad] at d3
     have e:=hbadE (by rw[hbad];rfl)
     have He:=Lhd e
     generalize hlk:W.look t.at_=y at *
     obtain⟨yk,yt,yn,ya⟩:=y
     clear hov hbad e hbadE hP hlk
     simp only[wrow] at Hwo
     go_wp2_with (fail)
     refine(Hwo.out _ H4.out.1).mono ?_
     rintro e w5 ⟨rfl,hb5⟩
     have Hb5:=Lhd hb5
     clear hb5
     go_wp2
     go_ret2
     rw[He.out]
     exact⟨rfl,H4.out.2.2.2.then_below Hb5.out,fun h=>by cases h⟩
    | false =>
     rw[hbad] at d3
     rcases Nat.lt_or_ge t.at_ W.l.length with hlt|hge
     ·have e:=hbadE (by rw[hbad];simpa using hlt)
      have He:=Lhd e
      have hpos:(0:Int)<((W.l.length-t.at_:Nat):Int):=by omega
      generalize W.l.length-t.at_=left at *
      generalize hlk:W.look t.at_=y at *
      obtain⟨yk,yt,yn,ya⟩:=y
      clear hov hbad e hbadE hP hlk hlt
      simp only[wrow] at Hwo
      go_wp2_with (fail)
      refine Hlf.out.mono ?_
      rintro e w5 ⟨rfl,hb5⟩
      have hP5:=H4.out.1.below hb5
      have Hb5:=Lhd (And.intro hP5 hb5)
      have hk5:=hP5.blk
      clear d0 d1 d2 d3 dg
      obtain⟨d0,d1,d2,d3,dg⟩:=cells4 hk5
      clear hb5 hP5 hk5
      go_wp2_with (fail)
      refine(Hwo.out _ Hb5.out.1).mono ?_
      rintro e w6 ⟨rfl,hb6⟩
      have Hb6:=Lhd hb6
      clear hb6
      go_wp2
      go_ret2
      rw[He.out]
      exact⟨rfl,(H4.out.2.2.2.then_below Hb5.out.2).then_below Hb6.out,fun h=>by cases h⟩
     ·have hz:W.l.length-t.at_=0:=by omega
      rw[hz] at Hlf
      have hend:endX ex0 (rgtE 9000) W (p,t)=if rgtE 9000 p then (p,0,0) else (ex0,0,14):=by
       unfold endX
       rw[if_neg (by rw[hov];decide),if_neg (by rw[hbad];simpa using hge)]
      have hrc:=fun w5 (h5:Below w4.heap.size w4 w5)=>rightExpr_clo (Fr w3) gx p row w5 (H4.out.2.1.as_was (h5.block _ H4.out.2.1.lt)) (ExAt.below H4.out.2.2.1 h5)
      have Hend:=Lhd hend
      generalize rgtE 9000 p=q at *
      have Hrc:=Lhd hrc
      clear hov hbad hbadE hz hrc hP hge hend
      cases q with
      | true =>
       have hend:=Hend.out
       rw[if_pos rfl] at hend
       have He:=Lhd hend
       clear hend
       go_wp2_with (fail)
       refine Hlf.out.mono ?_
       rintro e w5 ⟨rfl,hb5⟩
       have Hb5:=Lhd hb5
       clear hb5
       go_wp2_with (fail)
       refine(Hrc.out _ Hb5.out).mono ?_
       rintro e w6 ⟨rfl,hb6⟩
       have Hb6:=Lhd (Hb5.out.trans (hb6.mono Hb5.out.size))
       clear hb6
       go_wp2
       go_ret2
       rw[He.out]
       refine⟨rfl,H4.out.2.2.2.then_below Hb6.out,fun _=>⟨row,H4.out.2.1.as_was (Hb6.out.block _ H4.out.2.1.lt),?_⟩⟩
       exact ExAt.conv (fun k (hk:w3.heap.size≤k)=>by show w.heap.size≤k;have:=H3.out.2.1.size;omega) (Kept.of_below Hb6.out) 9000 (Nat.le_refl 9000) H4.out.2.2.1
      | false =>
       have hend:=Hend.out
       rw[if_neg (by decide)] at hend
       have He:=Lhd hend
       clear hend
       go_wp2_with (fail)
       refine Hlf.out.mono ?_
       rintro e w5 ⟨rfl,hb5⟩
       have Hb5:=Lhd hb5
       clear hb5
       go_wp2_with (fail)
       refine(Hrc.out _ Hb5.out).mono ?_
       rintro e w6 ⟨rfl,hb6⟩
       have Hb6:=Lhd (Hb5.out.trans (hb6.mono Hb5.out.size))
       clear hb6
       go_wp2
       go_ret2
       rw[He.out]
       exact⟨rfl,H4.out.2.2.2.then_below Hb6.out,fun h=>by cases h⟩
theorem ret_Expr3 {fn:Func} {p u v:Tmp} {tmps:Array Value} {w:World} {g:Nat} {t:TypeId} {cs:Array Value} {x y:Value} (h:fn.results=#[.cell p 32,.tmp u,.tmp v]) (hp:tmps.getD p undef=.pointer (some ⟨g,0,none⟩)) (hk:IsBlk w g t cs) (hz:cs.size=6) (hv:tmps.getD u undef=x) (hy:tmps.getD v undef=y):(results fn tmps).run Tryz.prog w=.ok (.tuple #[.agg cs,x,y]) w:=by
 have h2:=run_loadVar_row (P:=Tryz.prog) w g t 32 cs (0,0) _ hk Tryz.underlying32 rfl (by rw[hz];exact sizeEx)
 simp only[results,h]
 have e1:tmps[p]?.getD undef=.pointer (some ⟨g,0,none⟩):=by simpa using hp
 have e2:tmps[u]?.getD undef=x:=by simpa using hv
 have e3:tmps[v]?.getD undef=y:=by simpa using hy
 simp[Result.andThen,e1,e2,e3,asAddr,h2]
def ExprGives (w:World) (x:Ex×Int×Int) (e:Ending) (w':World):Prop:=(∃ row,e=.returned (.tuple #[.agg row.toArray,.int .i64 x.2.1,.int .i64 x.2.2])∧ExAt (Fr w) 9000 w' row x.1)∧Below w.heap.size w w'
theorem ex0_at (F:Nat→Prop) (w:World):ExAt F 9000 w [.int .i64 0,.int .i64 0,.string ⟨#[]⟩,.string ⟨#[]⟩,.string ⟨#[]⟩,.slice none 0 0] ex0:=ExAt.conv (fun _ h=>h) (Kept.refl _ _) 1 (by omega) (leaf_at F w 0 0 nil0 nil0 (by omega) (by omega) okI_0 okS_0 okS_0)
theorem parseExpr_any (s:ByteArray) (w:World):Calls Tryz.prog 9 #[.string s] w (ExprGives w (exprX s.data.toList)):=by
 obtain⟨w1,Hw1⟩:∃ w1,Hid (w1=(w.alloc (.cells zero6 32)).alloc (.cells zero6 32)):=⟨_,rfl⟩
 have hb1:Below w.heap.size w w1:=by rw[Hw1.out];exact((Below.refl _ _).alloc (Nat.le_refl _) _).alloc (by simp) _
 have hkr:IsBlk w1 w.heap.size 32 zero6:=by rw[Hw1.out];exact(IsBlk.laid _ _ _).alloc _
 have hkx:IsBlk w1 (w.heap.size+1) 32 zero6:=by rw[Hw1.out];exact blk_new (by simp)
 have hsz:w1.heap.size=w.heap.size+2:=by rw[Hw1.out];simp
 have hp:=parsedExpr_any s (w.heap.size+1) w.heap.size w1 hkx (by omega)
 have hz:=textX_zero ex0 (rgtE 9000) expr1 s.data.toList
 have hz:((exprX s.data.toList).2.2=0→(exprX s.data.toList).2.1=0)∧((exprX s.data.toList).2.2≠0→(exprX s.data.toList).1=ex0):=hz
 generalize exprX s.data.toList=x at *
 obtain⟨p,at_,er⟩:=x
 simp only at hz
 have Hp:=Lhd hp
 have Hz:=Lhd hz
 have Hk:=Lhd (And.intro hb1 (And.intro hkr hsz))
 clear hp hz hb1 hkr hkx hsz
 go_enter Tryz.func9,Tryz.ntmps9
 go_upto_region 2 with (fail)
 rw[← Hw1.out]
 go_wp2_with (fail)
 refine Hp.out.mono ?_
 rintro e w2 ⟨rfl,hB,hpr⟩
 have hsz:=Hk.out.2.2
 have hkr2:=Hk.out.2.1.as_was (hB.block _ Hk.out.2.1.lt (by omega))
 obtain⟨x0,x1,x2,x3,x4,x5,xl⟩:=cells6 hkr2
 have f2:=hkr2.frozen
 have hb2:Below w.heap.size w w2:=Hk.out.1.trans (hB.below' (by omega) (fun i hi=>by omega))
 have H2:=Lhd (And.intro hkr2 hb2)
 have Hpr:=Lhd hpr
 clear hB hpr hsz hkr2 hb2
 have hlay:∀ (v0 v1 v2 v3 v4 v5:Value),Below w.heap.size w (lay6 w2 w.heap.size v0 v1 v2 v3 v4 v5):=fun v0 v1 v2 v3 v4 v5=>H2.out.2.trans ((lay6_but w2 w.heap.size v0 v1 v2 v3 v4 v5).below' H2.out.2.size (fun i hi=>by omega))
 have Hlay:=Lhd hlay
 clear hlay
 rcases Classical.em (er=0) with he|he
 ·have q0:(er==0)=true:=by rw[beq_iff_eq];exact he
  have q1:(er !=0)=false:=by simp[he]
  obtain⟨row,hkx,hpr⟩:=Hpr.out he
  have hat:=Hz.out.1 he
  subst hat
  subst he
  have hprw:=hpr
  obtain⟨A,m,c,rfl⟩:=ex_row6 hprw
  obtain⟨y0,y1,y2,y3,y4,y5,yl⟩:=cells6 hkx
  have Hpr2:=Lhd hpr
  clear hpr hkx q0 q1
  go_wp2
  rw[lay6_eq]
  refine bodyPost_ret (ret_Expr3 Tryz.results9 rfl (lay6_blk _ _ _ _ _ _ H2.out.1) rfl rfl rfl) rfl ⟨⟨_,rfl,?_⟩,Hlay.out _ _ _ _ _ _⟩
  exact ExAt.conv (fun k (hk:w1.heap.size≤k)=>by show w.heap.size≤k;have:=Hk.out.2.2;omega) (Kept.of_but (lay6_but w2 w.heap.size _ _ _ _ _ _) fun k (hk:w1.heap.size≤k) e=>by have:=Hk.out.2.2;omega) 9000 (Nat.le_refl 9000) Hpr2.out
 ·have q1:(er !=0)=true:=by simpa using he
  have q0:(er==0)=false:=by simpa using he
  have hz:=Hz.out.2 he
  subst hz
  clear he
  go_wp2
  rw[lay6_eq]
  exact bodyPost_ret (ret_Expr3 Tryz.results9 rfl (lay6_blk _ _ _ _ _ _ H2.out.1) rfl rfl rfl) rfl ⟨⟨_,rfl,ex0_at _ _⟩,Hlay.out _ _ _ _ _ _⟩
def Low (s:Int×Int) (H:Nat):Prop:=0≤s.1∧(s.1<1000→s.2<1000→(H:Int)≤s.2)
theorem Low.nought:Low (0,0) 0:=⟨by decide,fun _ _=>by decide⟩
theorem Low.much (H:Nat):Low (1000,1000) H:=⟨by decide,fun h _=>absurd h (by decide)⟩
theorem Low.add {s t:Int×Int} {H K:Nat} (h:Low s H) (k:Low t K):Low (addZ s t) (max H K):=by
 obtain⟨h1,h2⟩:=h
 obtain⟨k1,k2⟩:=k
 refine⟨by simp only[addZ];omega,fun g1 g2=>?_⟩
 simp only[addZ] at g1 g2 ⊢
 have a:=h2 (by omega) (by omega)
 have b:=k2 (by omega) (by omega)
 omega
theorem Low.over {s:Int×Int} {H:Nat} (h:Low s H):Low (overZ s) (1+H):=by
 obtain⟨h1,h2⟩:=h
 refine⟨by simp only[overZ];omega,fun g1 g2=>?_⟩
 simp only[overZ] at g1 g2 ⊢
 have a:=h2 (by omega) (by omega)
 omega
theorem Low.all {α:Type} {lv:Int} {one:α→Int×Int} {g:α→Nat} (h:∀ x,Low (one x) (g x)):∀ (l:List α) {s:Int×Int} {H:Nat},Low s H→Low (allZ lv one s l) (max H (maxN (l.map g))):=by
 intro l
 induction l with
 | nil=>intro s H hs;simpa [allZ,maxN] using hs
 | cons x r ih =>
  intro s H hs
  rw[List.map_cons,maxN_cons]
  unfold allZ
  split
  ·exact Low.much _
  ·have:=ih (hs.add (h x))
   rw[Nat.max_assoc] at this
   exact this
theorem sizeE_low (d:Nat):∀ (lv:Int) (e:Ex),Low (sizeE d lv e) (dptE d e):=by
 induction d with
 | zero=>intro lv e;exact Low.nought
 | succ d ih =>
  intro lv e
  rw[sizeE,dptE]
  have:=Low.all (lv:=lv+1) (fun x=>ih (lv+1) x) e.args Low.nought
  rw[Nat.zero_max] at this
  exact this.over
theorem small_dptE {d:Nat} {e:Ex} (h:smallZ (sizeE d 0 e)=true):dptE d e≤12:=by
 obtain⟨h1,h2⟩:=sizeE_low d 0 e
 simp only[smallZ,Bool.and_eq_true,decide_eq_true_eq] at h
 have:=h2 (by omega) (by omega)
 omega
/- a procedure's text -/
def NumP (d:Nat) (p:Pr):Prop:=∀ b∈p.body,NumS d b
def onT (b:ByteArray):List UInt8:=if noS b then [] else [32,111,110,32]++b.data.toList
def fromT (b:ByteArray):List UInt8:=if noS b then [] else [32,102,114,111,109,32]++b.data.toList
def fuelT (n:Int):List UInt8:=if n=100 then [] else [32,102,117,101,108,32]++decS n
def NoNl (b:ByteArray):Prop:=b.data.toList.any (·==10)=false
def ClE (e:Ex):Prop:=∀ D,nlE D e=false
def ClS (x:St):Prop:=∀ D,nlS D x=false
def CE (one:PSt→Ex×PSt):Prop:=∀ s,ClE (one s).1
section
variable (W:Wds)
variable {E:PSt→Ex×PSt} (hE:CE E) (hW:∀ i,(W.look i).kind=2→NoNl (W.look i).text)
include hE
include hW
omit hE hW
end
section
variable (W:Wds) (hW:∀ i,(W.look i).kind=2→NoNl (W.look i).text)
include hW
omit hW
include hW
end
open Go.RowKit Go.Afx
theorem builtE_mono:∀ (d:Nat) {k:Nat} {e:Ex},d≤k→builtE d e=true→builtE k e=true:=by
 intro d
 induction d with
 | zero=>intro k e _ h;cases h
 | succ d ih =>
  intro k e hk h
  obtain⟨k,rfl⟩:∃ m,k=m+1:=⟨k-1,by omega⟩
  rw[builtE] at h ⊢
  simp only[Bool.and_eq_true,List.all_eq_true] at h ⊢
  exact⟨h.1,fun x hx=>ih (by omega) (h.2 x hx)⟩
theorem allZ_same {α:Type} {lv:Int} {f g:α→Int×Int}:∀ (l:List α) (s:Int×Int),(∀ x∈l,f x=g x)→allZ lv f s l=allZ lv g s l:=by
 intro l
 induction l with
 | nil=>intro s _;rfl
 | cons x l ih =>
  intro s h
  unfold allZ
  rw[h x (by simp),ih _ (fun y hy=>h y (by simp[hy]))]
theorem sizeE_same:∀ (d k:Nat) (lv:Int) (e:Ex),builtE d e=true→builtE k e=true→sizeE d lv e=sizeE k lv e:=by
 intro d
 induction d with
 | zero=>intro k lv e h;cases h
 | succ d ih =>
  intro k lv e h hk
  cases k with
  | zero=>cases hk
  | succ k =>
   rw[builtE] at h hk
   simp only[Bool.and_eq_true,List.all_eq_true] at h hk
   rw[sizeE,sizeE,allZ_same e.args _ (fun x hx=>ih k (lv+1) x (h.2 x hx) (hk.2 x hx))]
theorem rgt_turn {d k:Nat} {e:Ex} (h:rgtE d e=true) (hk:builtE k e=true):rgtE k e=true:=by
 unfold rgtE at h ⊢
 simp only[Bool.and_eq_true] at h ⊢
 rw[sizeE_same k d 0 e hk h.2]
 exact⟨h.1,hk⟩
theorem rgt_mono {d k:Nat} {e:Ex} (hd:d≤k) (h:rgtE d e=true):rgtE k e=true:=rgt_turn h (builtE_mono d hd (by
 unfold rgtE at h
 simp only[Bool.and_eq_true] at h
 exact h.2))
/- what lies in cells -/
theorem ls_mem {α:Type} {F:Nat→Prop} {w:World} {sz:Nat} {Q:List Value→α→Prop} {P:α→Prop} {A:Option Addr} {n c:Nat} {xs:List α} (h:LsAt F w sz Q A n c xs) (hQ:∀ r x,Q r x→P x):∀ x∈xs,P x:=fun x hx=>by
 obtain⟨k,hk,rfl⟩:=List.mem_iff_getElem.1 hx
 obtain⟨_,_,r,y,_,_,_,hy,_,hp,_⟩:=LsAt.get h (by rw[← LsAt.len h];exact hk)
 rw[List.getElem?_eq_getElem hk] at hy
 cases hy
 exact hQ r _ hp
theorem numE_at {F:Nat→Prop} {w:World}:∀ (d:Nat) {r:List Value} {e:Ex},ExAt F d w r e→NumE d e:=by
 intro d
 induction d with
 | zero=>intro r e h;exact h.elim
 | succ d ih =>
  intro r e h
  obtain⟨_,h2,_,_,_,A,m,c,_,hl⟩:=h
  exact⟨h2.2,ls_mem hl (fun r x hx=>ih hx)⟩
theorem print_backED {d:Nat} {x:Ex} (h9:d≤9000) (hr:rgtE d x=true) (hnl:nlE d x=false) (hn:NumE d x) (hlen:(txtE d x).length≤8000):exprX (txtE d x)=(x,0,0):=by
 have hr9:=rgt_mono h9 hr
 have hr2:=hr
 unfold rgtE at hr2
 simp only[Bool.and_eq_true] at hr2
 obtain⟨hsm,hb⟩:=hr2
 have hd:=small_dptE hsm
 have hx:=lx_expr d x hb hnl hn [] [] bd_nil .nil
 rw[List.append_nil,List.append_nil] at hx
 obtain⟨ws,hl,hk⟩:=lexL_of hx
 have hA:At ⟨ws,(txtE d x).length⟩ 0 (tokE d x++[]):=⟨by rw[List.append_nil];exact hk,Nat.zero_le _⟩
 have hp:expr1 ⟨ws,(txtE d x).length⟩ PSt.start=_:=expr1_at (k:=0) hb hA (noop_nil 1) (by omega) (by omega)
 have hlw:ws.length=(tokE d x).length:=by rw[← hk,List.length_map]
 have e:exprX (txtE d x)=endX ex0 (rgtE 9000) ⟨ws,(txtE d x).length⟩ (expr1 ⟨ws,(txtE d x).length⟩ PSt.start):=textX_inr (by omega) hl
 rw[e,hp]
 unfold endX stK
 simp only[Bool.false_or,hr9,if_true,Bool.false_eq_true,if_false]
 rw[if_neg (by simp;omega)]
end Go.Proofs.YtdgapmnojmhllaaGreatDoor
