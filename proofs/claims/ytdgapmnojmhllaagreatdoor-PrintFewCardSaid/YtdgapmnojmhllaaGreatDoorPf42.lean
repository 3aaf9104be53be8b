/- Parts of this proof, one behind the other: RgC, RfA, RfB, RgD. -/
import Derived.Test.YtdgapmnojmhllaaGreatDoorPf41
import Derived.Test.YtdgapmnojmhllaaGreatDoorPf5
import Derived.Test.YtdgapmnojmhllaaGreatDoorPf32
set_option maxRecDepth 1000000
set_option maxHeartbeats 40000000
namespace Go.Proofs.YtdgapmnojmhllaaGreatDoor
open Go.RowKit Go.Afx
structure WdAt (g:Nat) (w:World) (A:Option Addr) (m c i:Nat) (x:Wd) (b o:Nat):Prop where
 e:A=some ⟨b,o,none⟩
 kind:w.cell? ⟨b,o+i*4,none⟩=some (.int .i64 x.kind)
 text:w.cell? ⟨b,o+i*4+1,none⟩=some (.string x.text)
 n:w.cell? ⟨b,o+i*4+2,none⟩=some (.int .i64 x.n)
 at_:w.cell? ⟨b,o+i*4+3,none⟩=some (.int .i64 x.at_)
 lt:b<w.heap.size
 ne:b≠g
 in_:i<m
 cap:m≤1000000000000
 ok:okW x
theorem DAt.word {g gw:Nat} {W:Wds} {s:PSt} {w:World} (h:DAt g gw W s w) {i:Nat} (hi:i<W.l.length):∃ A m c b o,w.cell? ⟨g,0,none⟩=some (.slice A m c)∧WdAt g w A m c i (W.look i) b o∧m=W.l.length:=by
 obtain⟨⟨A,m,c,hk,hl⟩,h1,h2,h3,h4⟩:=h
 have hm:=hl.len
 obtain⟨c0,_,_,_,_,_⟩:=cells5 hk
 obtain⟨b,o,r,x,hA,hb,hbg,hx,hrl,⟨rfl,hok⟩,hc⟩:=hl.get (k:=i) (by omega)
 subst hA
 rw[look_in hx]
 exact⟨_,m,c,b,o,c0,⟨rfl,by simpa using hc 0 _ rfl,hc 1 (.string x.text) rfl,hc 2 (.int .i64 x.n) rfl,hc 3 (.int .i64 x.at_) rfl,hb,fun e=>h3 (hbg▸e),by omega,by omega,hok⟩,hm.symm⟩
theorem fail_bad {s:PSt} (h:s.bad=true):s.fail=s:=by
 obtain⟨a,d,o,b⟩:=s
 cases h
 rfl
theorem kind_in {W:Wds} {s:PSt} {k:Int} (h4:k≠4) (h:(W.look s.at_).kind=k):s.at_<W.l.length:=by
 rcases Nat.lt_or_ge s.at_ W.l.length with h1|h1
 ·exact h1
 ·rw[look_kind_end h1] at h;exact absurd h.symm h4
theorem dNumber_any (g gw:Nat) (W:Wds) (s:PSt) (w:World) (h:DAt g gw W s w) :
  Calls Tryz.prog 110 #[.pointer (some ⟨g,0,none⟩)] w fun e w'=>e=.returned (.int .i64 (numP W s).1)∧DAt g gw W (numP W s).2 w'∧But (fun k=>k=g) w w':=by
 have hi:=dKind_any g gw W s 1 w h (by decide)
 have hb:=fun w2 (hb:Below w.heap.size w w2)=>h.below hb
 have hsm:=at_small h
 by_cases hc:s.bad=false∧(W.look s.at_).kind=1
 ·have hlt:=kind_in (by decide) hc.2
  have hv:numP W s=((W.look s.at_).n,s.on):=by
   unfold numP
   rw[hc.1,if_neg Bool.false_ne_true,if_pos hc.2]
  rw[hc.1,hc.2] at hi
  rw[hv]
  have Hi:=Lhd hi
  have Hb:=Lhd hb
  have Hlt:=Lhd hlt
  clear hi hb hc h hv hlt
  go_enter Tryz.func110,Tryz.ntmps110
  go_wp2_with (fail)
  refine Hi.out.mono ?_
  rintro e w2 ⟨rfl,hb2⟩
  have h2:=Hb.out w2 hb2
  obtain⟨A,n,c,c0,c1,c2,c3,c4,hg,hf⟩:=h2.cells
  have h3:=h2.on_ Hlt.out
  have hB3:=but_cell (But.of_below (S:=fun k=>k=g) hb2) 1 (.int .i64 ((s.at_+1:Nat):Int))
  obtain⟨w3,Hw3⟩:∃ w3,Hid (w3=w2.setCell ⟨g,1,none⟩ (.int .i64 ((s.at_:Int)+1))):=⟨_,rfl⟩
  have Hw4:Hid (w2.setCell ⟨g,1,none⟩ (.int .i64 ((s.at_+1:Nat):Int))=w3):=Hw3.out.symm
  rw[Hw4.out] at h3 hB3
  clear hb2 h2
  go_upto_region 5 with (fail)
  rw[← Hw3.out]
  clear c0 c1 c2 c3 c4 hg hf
  obtain⟨A2,n2,k2,d0,d1,d2,d3,d4,dg,df⟩:=h3.cells
  replace d1:w3.cell? ⟨g,1,none⟩=some (.int .i64 ((s.at_:Int)+1)):=d1
  obtain⟨A3,m3,k3,b,o,e0,hw,hm⟩:=h3.word Hlt.out
  clear hm
  rw[e0] at d0
  cases d0
  obtain⟨rfl,x0,x1,x2,x3,xb,xne,xin,xcap,_⟩:=hw
  have H3:=Lhd (And.intro h3 hB3)
  have i0:(0:Int)≤(s.at_:Int):=by omega
  have i1:(s.at_:Int)<(n2:Int):=by omega
  have i2:IntKind.i64.wrap ((s.at_:Int)+1-1)=(s.at_:Int):=by rw[i64_of ⟨by omega,by omega⟩];omega
  have i3:IntKind.i64.wrap (s.at_:Int)=(s.at_:Int):=i64_of ⟨by omega,by omega⟩
  clear h3 hB3 x0 x1 x3
  go_wp2
  go_quiet (fail)
  go_wp2
  go_ret
  exact⟨rfl,H3.out.1.below (below_drewN (Below.refl _ _) _),H3.out.2.trans' (But.of_below (below_drewN (Below.refl _ _) _))⟩
 ·have hv:numP W s=(0,s.fail):=by
   unfold numP
   cases hbad:s.bad with
   | true=>rw[if_pos rfl,fail_bad hbad]
   | false =>
    rw[if_neg Bool.false_ne_true,if_neg fun e=>hc ⟨hbad,e⟩]
  have hk:(!s.bad&&(W.look s.at_).kind==1)=false:=by
   cases hbad:s.bad with
   | true=>rfl
   | false =>
    have:¬ (W.look s.at_).kind=1:=fun e=>hc ⟨hbad,e⟩
    simpa using this
  rw[hk] at hi
  rw[hv]
  have Hi:=Lhd hi
  have Hb:=Lhd hb
  clear hi hb hc h hv hk
  go_enter Tryz.func110,Tryz.ntmps110
  go_wp2_with (fail)
  refine Hi.out.mono ?_
  rintro e w2 ⟨rfl,hb2⟩
  have h2:=Hb.out w2 hb2
  obtain⟨A,n,c,c0,c1,c2,c3,c4,hg,hf⟩:=h2.cells
  have H2:=Lhd (And.intro h2.fail_ (but_cell (But.of_below (S:=fun k=>k=g) hb2) 4 (.bool true)))
  clear hb2 h2
  go_wp2
  go_ret
  exact⟨rfl,H2.out⟩
theorem nameP_no {W:Wds} {s:PSt} (h:¬ (s.bad=false∧(W.look s.at_).kind=3∧resB (W.look s.at_).text=false)):nameP W s=(⟨#[]⟩,s.fail):=by
 unfold nameP
 rw[if_pos ?_]
 ·rfl
 ·simp only[Bool.or_eq_true,Bool.not_eq_true',decide_eq_false_iff_not]
  by_cases h1:s.bad=true
  ·exact .inl (.inl h1)
  ·by_cases h2:(W.look s.at_).kind=3
   ·right
    cases h3:resB (W.look s.at_).text with
    | true=>rfl
    | false=>exact absurd ⟨by simpa using h1,h2,h3⟩ h
   ·exact .inl (.inr h2)
theorem nameP_yes {W:Wds} {s:PSt} (h0:s.bad=false) (h1:(W.look s.at_).kind=3) (h2:resB (W.look s.at_).text=false):nameP W s=((W.look s.at_).text,s.on):=by
 unfold nameP
 rw[h0,h1,h2]
 rfl
theorem dName_kind (g gw:Nat) (W:Wds) (s:PSt) (w:World) (h:DAt g gw W s w) (hk:(!s.bad&&(W.look s.at_).kind==3)=false) :
  Calls Tryz.prog 112 #[.pointer (some ⟨g,0,none⟩)] w fun e w'=>e=.returned (.string ⟨#[]⟩)∧DAt g gw W s.fail w'∧But (fun k=>k=g) w w':=by
 have Hi:=Lhd (fun W' (hW:Below w.heap.size w W')=>dKind_quiet g gw W s 3 W' (h.below hW) (by decide))
 have Hb:=Lhd (fun w2 (hb:Below w.heap.size w w2)=>h.below hb)
 rw[hk] at Hi
 obtain⟨A,n,c,c0,c1,c2,c3,c4,hg,hf⟩:=h.cells
 clear hk h c2 c3 c4
 go_enter Tryz.func112,Tryz.ntmps112
 go_wp2
 go_quiet ((go_at_call 109;exact Calls.quiet_of (Hi.out _ (below_drewN (Below.refl _ _) _))))
 have h2:=Hb.out _ (below_drewN (Below.refl w.heap.size w) nq)
 have hB:=But.of_below (S:=fun k=>k=g) (below_drewN (Below.refl w.heap.size w) nq)
 obtain⟨A,n,c,c0,c1,c2,c3,c4,hg,hf⟩:=h2.cells
 have H2:=Lhd (And.intro h2.fail_ (but_cell hB 4 (.bool true)))
 clear h2 hB
 go_wp2
 go_ret
 exact⟨rfl,H2.out⟩
theorem dName_word (g gw:Nat) (W:Wds) (s:PSt) (w:World) (h:DAt g gw W s w) (hbad:s.bad=false) (hk:(W.look s.at_).kind=3) :
  Calls Tryz.prog 112 #[.pointer (some ⟨g,0,none⟩)] w fun e w'=>e=.returned (.string (nameP W s).1)∧DAt g gw W (nameP W s).2 w'∧But (fun k=>k=g) w w':=by
 have Hi:=Lhd (fun W' (hW:Below w.heap.size w W')=>dKind_any g gw W s 3 W' (h.below hW) (by decide))
 rw[hbad,hk] at Hi
 have Hb:=Lhd (fun w2 (hb:Below w.heap.size w w2)=>h.below hb)
 have hlt:=kind_in (by decide) hk
 have hsm:=at_small h
 obtain⟨A,n,c,c0,c1,c2,c3,c4,hg,hf⟩:=h.cells
 obtain⟨A3,m3,k3,b,o,e0,hw,hm⟩:=h.word hlt
 clear hm
 rw[e0] at c0
 cases c0
 obtain⟨rfl,x0,x1,x2,x3,xb,xne,xin,xcap,_⟩:=hw
 have hres:=fun W'=>resRef_any (W.look s.at_).text W'
 have hyes:=nameP_yes hbad hk
 have hno:=nameP_no (W:=W) (s:=s)
 have HS:=Lhd (fun W' (hW:Below w.heap.size w W')=>(show W'.cell? ⟨g,0,none⟩=some (.slice (some ⟨b,o,none⟩) n c)∧W'.cell? ⟨g,1,none⟩=some (.int .i64 s.at_)∧W'.cell? ⟨b,o+s.at_*4+1,none⟩=some (.string (W.look s.at_).text)∧g<W'.heap.size∧b<W'.heap.size from ⟨(hW.cell (p:=⟨g,0,none⟩) hg).trans e0,(hW.cell (p:=⟨g,1,none⟩) hg).trans c1,(hW.cell (p:=⟨b,_,none⟩) xb).trans x1,Nat.lt_of_lt_of_le hg hW.size,Nat.lt_of_lt_of_le xb hW.size⟩))
 have i0:(0:Int)≤(s.at_:Int):=by omega
 have i1:(s.at_:Int)<(n:Int):=by omega
 have hrf:Below w.heap.size w w.drew:=(Below.refl _ _).drew
 have Hlt:=Lhd hlt
 cases hr:resB (W.look s.at_).text with
 | false =>
  rw[hr] at hres
  have hv:=hyes hr
  rw[hv]
  have Hres:=Lhd hres
  clear h hbad hk hlt hres hyes hno hr hv c2 c3 c4 x0 x2 x3
  go_enter Tryz.func112,Tryz.ntmps112
  go_wp2
  go_region_held3 (fun W'=>W'.cell? ⟨g,0,none⟩=some (.slice (some ⟨b,o,none⟩) n c)∧W'.cell? ⟨g,1,none⟩=some (.int .i64 s.at_)∧W'.cell? ⟨b,o+s.at_*4+1,none⟩=some (.string (W.look s.at_).text)∧g<W'.heap.size∧b<W'.heap.size) (first|assumption|exact HS.out _ hbx|exact HS.out _ hbw|exact HS.out _ hrf) (first|(go_at_call 109;go_loud ((with_reducible refine(Hi.out _ hrf).mono ?_);rintro x wa ⟨rfl,hba⟩;have hbw:Below w.heap.size w wa:=hrf.trans hba))|(go_at_call 114;go_loud ((with_reducible refine(Hres.out _).mono ?_);rintro x wx ⟨rfl,hbb⟩;have hbx:Below w.heap.size w wx:=hbw.trans (hbb.mono hbw.size))))
  have h2:=Hb.out wx hbx
  have h3:=h2.on_ Hlt.out
  have hB3:=but_cell (But.of_below (S:=fun k=>k=g) hbx) 1 (.int .i64 ((s.at_+1:Nat):Int))
  obtain⟨w3,Hw3⟩:∃ w3,Hid (w3=wx.setCell ⟨g,1,none⟩ (.int .i64 ((s.at_:Int)+1))):=⟨_,rfl⟩
  have Hw4:Hid (wx.setCell ⟨g,1,none⟩ (.int .i64 ((s.at_+1:Nat):Int))=w3):=Hw3.out.symm
  rw[Hw4.out] at h3 hB3
  obtain⟨A5,n5,k5,d0,d1,d2,d3,d4,dg,df⟩:=h2.cells
  clear h2 hba hbw hbb hbx d2 d3 d4 c1 x1
  go_upto_region 5 with (fail)
  rw[← Hw3.out]
  clear d0 d1 dg df
  obtain⟨A2,n2,k2,d0,d1,d2,d3,d4,dg,df⟩:=h3.cells
  replace d1:w3.cell? ⟨g,1,none⟩=some (.int .i64 ((s.at_:Int)+1)):=d1
  obtain⟨A3,m3,k3,b2,o2,e0,hw,hm⟩:=h3.word Hlt.out
  clear hm
  rw[e0] at d0
  cases d0
  obtain⟨rfl,x0,x1,x2,x3,xb,xne,xin,xcap,_⟩:=hw
  have H3:=Lhd (And.intro h3 hB3)
  have i1:(s.at_:Int)<(n2:Int):=by omega
  have i2:IntKind.i64.wrap ((s.at_:Int)+1-1)=(s.at_:Int):=by rw[i64_of ⟨by omega,by omega⟩];omega
  have i3:IntKind.i64.wrap (s.at_:Int)=(s.at_:Int):=i64_of ⟨by omega,by omega⟩
  clear h3 hB3 x0 x2 x3
  go_wp2
  go_quiet (fail)
  go_wp2
  go_ret
  exact⟨rfl,H3.out.1.below (below_drewN (Below.refl _ _) _),H3.out.2.trans' (But.of_below (below_drewN (Below.refl _ _) _))⟩
 | true =>
  rw[hr] at hres
  have hv:=hno (fun ⟨_,_,e⟩=>by rw[hr] at e;cases e)
  rw[hv]
  have Hres:=Lhd hres
  clear h hbad hk hlt hres hyes hno hr hv c2 c3 c4 x0 x2 x3
  go_enter Tryz.func112,Tryz.ntmps112
  go_wp2
  go_region_held3 (fun W'=>W'.cell? ⟨g,0,none⟩=some (.slice (some ⟨b,o,none⟩) n c)∧W'.cell? ⟨g,1,none⟩=some (.int .i64 s.at_)∧W'.cell? ⟨b,o+s.at_*4+1,none⟩=some (.string (W.look s.at_).text)∧g<W'.heap.size∧b<W'.heap.size) (first|assumption|exact HS.out _ hbx|exact HS.out _ hbw|exact HS.out _ hrf) (first|(go_at_call 109;go_loud ((with_reducible refine(Hi.out _ hrf).mono ?_);rintro x wa ⟨rfl,hba⟩;have hbw:Below w.heap.size w wa:=hrf.trans hba))|(go_at_call 114;go_loud ((with_reducible refine(Hres.out _).mono ?_);rintro x wx ⟨rfl,hbb⟩;have hbx:Below w.heap.size w wx:=hbw.trans (hbb.mono hbw.size))))
  have h2:=Hb.out wx hbx
  obtain⟨A5,n5,k5,d0,d1,d2,d3,d4,dg,df⟩:=h2.cells
  have H2:=Lhd (And.intro h2.fail_ (but_cell (But.of_below (S:=fun k=>k=g) hbx) 4 (.bool true)))
  clear h2 hba hbw hbb hbx d2 d3 c1 x1
  go_wp2
  go_ret
  exact⟨rfl,H2.out⟩
theorem dName_any (g gw:Nat) (W:Wds) (s:PSt) (w:World) (h:DAt g gw W s w) :
  Calls Tryz.prog 112 #[.pointer (some ⟨g,0,none⟩)] w fun e w'=>e=.returned (.string (nameP W s).1)∧DAt g gw W (nameP W s).2 w'∧But (fun k=>k=g) w w':=by
 by_cases hc:s.bad=false∧(W.look s.at_).kind=3
 ·exact dName_word g gw W s w h hc.1 hc.2
 ·rw[nameP_no fun e=>hc ⟨e.1,e.2.1⟩]
  refine dName_kind g gw W s w h ?_
  cases hbad:s.bad with
  | true=>rfl
  | false =>
   have:¬ (W.look s.at_).kind=3:=fun e=>hc ⟨hbad,e⟩
   simpa using this
theorem ite_iff {p q:Prop} [Decidable p] [Decidable q] {α:Type} {a b:α} (h:p ↔ q):(if p then a else b)=if q then a else b:=by
 by_cases hp:p
 ·rw[if_pos hp,if_pos (h.1 hp)]
 ·rw[if_neg hp,if_neg fun hq=>hp (h.2 hq)]
section
variable (W:Wds)
theorem chain_fuel (l:List (ByteArray×Int)) {one:PSt→Ex×PSt} (hU:∀ s,Ge s (one s).2):∀ (F F':Nat) (e:Ex) (s:PSt),W.l.length-s.at_<F→W.l.length-s.at_<F'→chainP W l one F e s=chainP W l one F' e s:=by
 intro F
 induction F with
 | zero=>intro F' e s h;omega
 | succ F ih =>
  intro F' e s h1 h2
  obtain⟨F',rfl⟩:∃ m,F'=m+1:=⟨F'-1,by omega⟩
  unfold chainP
  rcases opP_cases W s l with h|⟨p,hp,h,hb,hlt⟩
  ·rw[h,if_pos rfl,if_pos rfl]
  ·by_cases h0:(opP W l s).1=0
   ·rw[if_pos h0,if_pos h0]
   ·rw[if_neg h0,if_neg h0]
    have h3:=op_more (W:=W) (l:=l) (s:=s)
    rw[if_neg h0] at h3
    have h4:=(hU (opP W l s).2).1
    exact ih F' _ _ (by omega) (by omega)
def chW (l:List (ByteArray×Int)) (one:PSt→Ex×PSt) (x:Ex×PSt):Ex×PSt:=chainP W l one W.fuel x.1 x.2
theorem chW_stop {l:List (ByteArray×Int)} {one:PSt→Ex×PSt} {x:Ex×PSt} (h:opP W l x.2=(0,x.2)):chW W l one x=x:=by
 unfold chW Wds.fuel chainP
 rw[h,if_pos rfl]
theorem chW_step {l:List (ByteArray×Int)} {one:PSt→Ex×PSt} (hU:∀ s,Ge s (one s).2) {x:Ex×PSt} {op:Int} (h0:op≠0) (hlt:x.2.at_<W.l.length) (h:opP W l x.2=(op,x.2.on)):chW W l one x=chW W l one (twoP op x.1 (one x.2.on).1,(one x.2.on).2):=by
 have h4:=(hU x.2.on).1
 have h5:x.2.on.at_=x.2.at_+1:=rfl
 have e:chW W l one x=chainP W l one W.l.length (twoP op x.1 (one x.2.on).1) (one x.2.on).2:=by
  show chainP W l one (W.l.length+1) x.1 x.2=_
  rw[chainP,h,if_neg h0]
 rw[e]
 exact chain_fuel W l hU _ _ _ _ (by omega) (by show _<W.l.length+1;omega)
variable (E:PSt→Ex×PSt)
def cmpW (x:Ex×PSt):Ex×PSt:=if (opP W lvCmp x.2).1=0 then (x.1,(opP W lvCmp x.2).2) else (twoP (opP W lvCmp x.2).1 x.1 (sumP W E (opP W lvCmp x.2).2).1,(sumP W E (opP W lvCmp x.2).2).2)
/- behind an expression: what comes, from the most tightly binding on -/
def stA (most:Nat) (x:Ex×PSt):Ex×PSt:=if 5≤most then chW W lvMul (signedP W E W.fuel) x else x
def stB (least most:Nat) (x:Ex×PSt):Ex×PSt:=if least≤4∧4≤most then chW W lvSum (productP W E) x else x
def stC (least most:Nat) (x:Ex×PSt):Ex×PSt:=if least≤3∧3≤most then cmpW W E x else x
def stD (least most:Nat) (x:Ex×PSt):Ex×PSt:=if least≤2∧2≤most then chW W lvAnd (notP W E W.fuel) x else x
def stE (least:Nat) (x:Ex×PSt):Ex×PSt:=if least≤1 then chW W lvOr (bothP W E) x else x
def climb (least most:Nat) (x:Ex×PSt):Ex×PSt:=stE W E least (stD W E least most (stC W E least most (stB W E least most (stA W E most x))))
theorem climb_mul (s:PSt):climb W E 5 9 (signedP W E W.fuel s)=productP W E s:=by
 unfold climb stA stB stC stD stE
 rw[if_neg (by decide),if_neg (by decide),if_neg (by decide),if_neg (by decide),if_pos (by decide)]
 rfl
theorem climb_sum (s:PSt):climb W E 4 9 (signedP W E W.fuel s)=sumP W E s:=by
 unfold climb stA stB stC stD stE
 rw[if_neg (by decide),if_neg (by decide),if_neg (by decide),if_pos (by decide),if_pos (by decide)]
 rfl
theorem climb_cmp (s:PSt):climb W E 3 9 (signedP W E W.fuel s)=cmpP W E s:=by
 unfold climb stA stB stC stD stE
 rw[if_neg (by decide),if_neg (by decide),if_pos (by decide),if_pos (by decide),if_pos (by decide)]
 rfl
section
variable {W E} {least most:Nat} {x:Ex×PSt}
theorem stA_no (h:5≤most→opP W lvMul x.2=(0,x.2)):stA W E most x=x:=by
 unfold stA
 split
 ·rename_i h2;exact chW_stop W (h h2)
 ·rfl
theorem stB_no (h:least≤4→4≤most→opP W lvSum x.2=(0,x.2)):stB W E least most x=x:=by
 unfold stB
 split
 ·rename_i h2;exact chW_stop W (h h2.1 h2.2)
 ·rfl
theorem stC_no (h:least≤3→3≤most→opP W lvCmp x.2=(0,x.2)):stC W E least most x=x:=by
 unfold stC
 split
 ·rename_i h2
  unfold cmpW
  rw[h h2.1 h2.2,if_pos rfl]
 ·rfl
theorem stD_no (h:least≤2→2≤most→opP W lvAnd x.2=(0,x.2)):stD W E least most x=x:=by
 unfold stD
 split
 ·rename_i h2;exact chW_stop W (h h2.1 h2.2)
 ·rfl
theorem stE_no (h:least≤1→opP W lvOr x.2=(0,x.2)):stE W E least x=x:=by
 unfold stE
 split
 ·rename_i h2;exact chW_stop W (h h2)
 ·rfl
theorem climb_none (h5:5≤most→opP W lvMul x.2=(0,x.2)) (h4:least≤4→4≤most→opP W lvSum x.2=(0,x.2)) (h3:least≤3→3≤most→opP W lvCmp x.2=(0,x.2)) (h2:least≤2→2≤most→opP W lvAnd x.2=(0,x.2)) (h1:least≤1→opP W lvOr x.2=(0,x.2)):climb W E least most x=x:=by
 unfold climb
 rw[stA_no h5,stB_no h4,stC_no h3,stD_no h2,stE_no h1]
theorem most_turn {k:Nat} (hk:4≤k) (hm:k≤most):(∀ y,stC W E least most y=stC W E least k y)∧∀ y,stD W E least most y=stD W E least k y:=by
 refine⟨fun y=>?_,fun y=>?_⟩
 ·unfold stC
  exact ite_iff ⟨fun h=>⟨h.1,by omega⟩,fun h=>⟨h.1,by omega⟩⟩
 ·unfold stD
  exact ite_iff ⟨fun h=>⟨h.1,by omega⟩,fun h=>⟨h.1,by omega⟩⟩
variable {op:Int} (h0:op≠0) (hlt:x.2.at_<W.l.length)
include h0 hlt
theorem climb_5 (hU:∀ s,Ge s (signedP W E W.fuel s).2) (hm:5≤most) (h:opP W lvMul x.2=(op,x.2.on)):climb W E least most x=climb W E least 5 (twoP op x.1 (signedP W E W.fuel x.2.on).1,(signedP W E W.fuel x.2.on).2):=by
 obtain⟨c1,c2⟩:=most_turn (W:=W) (E:=E) (least:=least) (k:=5) (by omega) hm
 have a:stA W E most x=stA W E 5 (twoP op x.1 (signedP W E W.fuel x.2.on).1,(signedP W E W.fuel x.2.on).2):=by
  unfold stA
  rw[if_pos hm,if_pos (Nat.le_refl 5),chW_step W hU h0 hlt h]
 have b:∀ y,stB W E least most y=stB W E least 5 y:=fun y=>by
  unfold stB
  exact ite_iff ⟨fun h=>⟨h.1,by omega⟩,fun h=>⟨h.1,by omega⟩⟩
 unfold climb
 rw[a,b,c1,c2]
theorem climb_4 (hU:∀ s,Ge s (productP W E s).2) (hl:least≤4) (hm:4≤most) (h5:opP W lvMul x.2=(0,x.2)) (h:opP W lvSum x.2=(op,x.2.on)):climb W E least most x=climb W E least 4 (twoP op x.1 (productP W E x.2.on).1,(productP W E x.2.on).2):=by
 obtain⟨c1,c2⟩:=most_turn (W:=W) (E:=E) (least:=least) (k:=4) (by omega) hm
 have b:stB W E least most x=stB W E least 4 (twoP op x.1 (productP W E x.2.on).1,(productP W E x.2.on).2):=by
  unfold stB
  rw[if_pos ⟨hl,hm⟩,if_pos ⟨hl,Nat.le_refl 4⟩,chW_step W hU h0 hlt h]
 unfold climb
 rw[stA_no (fun _=>h5),stA_no (most:=4) (fun h=>absurd h (by decide)),b,c1,c2]
omit hlt in
theorem climb_3 (hl:least≤3) (hm:3≤most) (h5:opP W lvMul x.2=(0,x.2)) (h4:opP W lvSum x.2=(0,x.2)) (h:opP W lvCmp x.2=(op,x.2.on)):climb W E least most x=climb W E least 2 (twoP op x.1 (sumP W E x.2.on).1,(sumP W E x.2.on).2):=by
 have c:stC W E least most x=(twoP op x.1 (sumP W E x.2.on).1,(sumP W E x.2.on).2):=by
  unfold stC cmpW
  rw[if_pos ⟨hl,hm⟩,h,if_neg h0]
 have d:∀ y,stD W E least most y=stD W E least 2 y:=fun y=>by
  unfold stD
  exact ite_iff ⟨fun h=>⟨h.1,by omega⟩,fun h=>⟨h.1,by omega⟩⟩
 unfold climb
 rw[stA_no (fun _=>h5),stB_no (fun _ _=>h4),c,d,stA_no (most:=2) (fun h=>absurd h (by decide)),stB_no (most:=2) (fun _ h=>absurd h (by decide)),stC_no (most:=2) (fun _ h=>absurd h (by decide))]
theorem climb_2 (hU:∀ s,Ge s (notP W E W.fuel s).2) (hl:least≤2) (hm:2≤most) (h5:opP W lvMul x.2=(0,x.2)) (h4:opP W lvSum x.2=(0,x.2)) (h3:opP W lvCmp x.2=(0,x.2)) (h:opP W lvAnd x.2=(op,x.2.on)):climb W E least most x=climb W E least 2 (twoP op x.1 (notP W E W.fuel x.2.on).1,(notP W E W.fuel x.2.on).2):=by
 have d:stD W E least most x=stD W E least 2 (twoP op x.1 (notP W E W.fuel x.2.on).1,(notP W E W.fuel x.2.on).2):=by
  unfold stD
  rw[if_pos ⟨hl,hm⟩,if_pos ⟨hl,Nat.le_refl 2⟩,chW_step W hU h0 hlt h]
 unfold climb
 rw[stA_no (fun _=>h5),stB_no (fun _ _=>h4),stC_no (fun _ _=>h3),d,stA_no (most:=2) (fun h=>absurd h (by decide)),stB_no (most:=2) (fun _ h=>absurd h (by decide)),stC_no (most:=2) (fun _ h=>absurd h (by decide))]
theorem climb_1 (hU:∀ s,Ge s (bothP W E s).2) (hl:least≤1) (h5:opP W lvMul x.2=(0,x.2)) (h4:opP W lvSum x.2=(0,x.2)) (h3:opP W lvCmp x.2=(0,x.2)) (h2:opP W lvAnd x.2=(0,x.2)) (h:opP W lvOr x.2=(op,x.2.on)):climb W E least most x=climb W E least 1 (twoP op x.1 (bothP W E x.2.on).1,(bothP W E x.2.on).2):=by
 have d:stE W E least x=stE W E least (twoP op x.1 (bothP W E x.2.on).1,(bothP W E x.2.on).2):=by
  unfold stE
  rw[if_pos hl,if_pos hl,chW_step W hU h0 hlt h]
 unfold climb
 rw[stA_no (fun _=>h5),stB_no (fun _ _=>h4),stC_no (fun _ _=>h3),stD_no (fun _ _=>h2),d,stA_no (most:=1) (fun h=>absurd h (by decide)),stB_no (most:=1) (fun _ h=>absurd h (by decide)),stC_no (most:=1) (fun _ h=>absurd h (by decide)),stD_no (most:=1) (fun _ h=>absurd h (by decide))]
end
end
open Go.RowKit Go.Afx
section
variable (W:Wds) (E:PSt→Ex×PSt)
theorem enter_at_ (s:PSt):(enterP s).at_=s.at_:=by
 unfold enterP
 split<;>rfl
theorem may_on {t:ByteArray} {s:PSt} (h:(mayP W t s).1=true):(mayP W t s).2.at_=s.at_+1∧s.at_<W.l.length:=by
 rcases may_cases W t s with e|⟨e,_,hlt⟩
 ·rw[e] at h;cases h
 ·rw[e];exact⟨rfl,hlt⟩
theorem not_fuel:∀ (F F':Nat) (s:PSt),W.l.length-s.at_<F→W.l.length-s.at_<F'→notP W E F s=notP W E F' s:=by
 intro F
 induction F with
 | zero=>intro F' s h;omega
 | succ F ih =>
  intro F' s h1 h2
  obtain⟨F',rfl⟩:∃ m,F'=m+1:=⟨F'-1,by omega⟩
  unfold notP
  cases hm:(mayP W (str [110,111,116]) s).1 with
  | false=>rfl
  | true =>
   obtain⟨h3,h4⟩:=may_on W hm
   have e:=ih F' (enterP (mayP W (str [110,111,116]) s).2) (by rw[enter_at_,h3];omega) (by rw[enter_at_,h3];omega)
   rw[e]
theorem signed_fuel:∀ (F F':Nat) (s:PSt),W.l.length-s.at_<F→W.l.length-s.at_<F'→signedP W E F s=signedP W E F' s:=by
 intro F
 induction F with
 | zero=>intro F' s h;omega
 | succ F ih =>
  intro F' s h1 h2
  obtain⟨F',rfl⟩:∃ m,F'=m+1:=⟨F'-1,by omega⟩
  unfold signedP
  cases hm:(mayP W (str [45]) s).1 with
  | false=>rfl
  | true =>
   obtain⟨h3,h4⟩:=may_on W hm
   have e:=ih F' (enterP (mayP W (str [45]) s).2) (by rw[enter_at_,h3];omega) (by rw[enter_at_,h3];omega)
   rw[e]
def notX (s:PSt):Ex×PSt:=(oneP 19 (notP W E W.fuel (enterP (mayP W (str [110,111,116]) s).2)).1,leaveP (notP W E W.fuel (enterP (mayP W (str [110,111,116]) s).2)).2)
theorem not_eq (s:PSt):notP W E W.fuel s=if (mayP W (str [110,111,116]) s).1 then notX W E s else cmpP W E s:=by
 unfold notX
 have e:notP W E W.fuel s=if (mayP W (str [110,111,116]) s).1 then (oneP 19 (notP W E W.l.length (enterP (mayP W (str [110,111,116]) s).2)).1,leaveP (notP W E W.l.length (enterP (mayP W (str [110,111,116]) s).2)).2) else cmpP W E s:=by
  show notP W E (W.l.length+1) s=_
  rw[notP]
 rw[e]
 cases hm:(mayP W (str [110,111,116]) s).1 with
 | false=>rfl
 | true =>
  obtain⟨h3,h4⟩:=may_on W hm
  rw[not_fuel W E W.l.length W.fuel (enterP (mayP W (str [110,111,116]) s).2) (by rw[enter_at_,h3];omega) (by rw[enter_at_,h3];unfold Wds.fuel;omega)]
def negX (s:PSt):Ex×PSt:=(oneP 20 (signedP W E W.fuel (enterP (mayP W (str [45]) s).2)).1,leaveP (signedP W E W.fuel (enterP (mayP W (str [45]) s).2)).2)
theorem signed_eq (s:PSt):signedP W E W.fuel s=if (mayP W (str [45]) s).1 then negX W E s else singleP W E s:=by
 unfold negX
 have e:signedP W E W.fuel s=if (mayP W (str [45]) s).1 then (oneP 20 (signedP W E W.l.length (enterP (mayP W (str [45]) s).2)).1,leaveP (signedP W E W.l.length (enterP (mayP W (str [45]) s).2)).2) else singleP W E s:=by
  show signedP W E (W.l.length+1) s=_
  rw[signedP]
 rw[e]
 cases hm:(mayP W (str [45]) s).1 with
 | false=>rfl
 | true =>
  obtain⟨h3,h4⟩:=may_on W hm
  rw[signed_fuel W E W.l.length W.fuel (enterP (mayP W (str [45]) s).2) (by rw[enter_at_,h3];omega) (by rw[enter_at_,h3];unfold Wds.fuel;omega)]
theorem climb_both (s:PSt):bothP W E s=if (mayP W (str [110,111,116]) s).1 then climb W E 2 2 (notX W E s) else climb W E 2 9 (signedP W E W.fuel s):=by
 have e:bothP W E s=chW W lvAnd (notP W E W.fuel) (notP W E W.fuel s):=rfl
 rw[e]
 conv=>lhs;arg 4;rw[not_eq]
 cases (mayP W (str [110,111,116]) s).1 with
 | true =>
  rw[if_pos rfl,if_pos rfl]
  unfold climb stA stB stC stD stE
  rw[if_neg (by decide),if_pos (by decide),if_neg (by decide),if_neg (by decide),if_neg (by decide)]
 | false =>
  rw[if_neg Bool.false_ne_true,if_neg Bool.false_ne_true,← climb_cmp]
  rfl
end
open Go.RowKit Go.Afx
def bindL:List (ByteArray×Int×Int):=[(str [43],6,4),(str [45],7,4),(str [42],8,5),(str [47],9,5),(str [37],10,5),(str [61],11,3),(str [33,61],12,3),(str [60],13,3),(str [60,61],14,3),(str [62,61],15,3),(str [62],16,3),(str [97,110,100],17,2),(str [111,114],18,1)]
def bindP (W:Wds) (s:PSt):Int×Int:=((bindL.find? fun x=>(mayP W x.1 s).1).map (·.2)).getD (0,0)
section
variable {W:Wds} {s:PSt}
theorem may_yes2 {t:ByteArray} (h:(mayP W t s).1=true):mayP W t s=(true,s.on)∧s.bad=false∧s.at_<W.l.length:=by
 rcases may_cases W t s with e|⟨e,h1,h2⟩
 ·rw[e] at h;cases h
 ·exact⟨e,h1,h2⟩
theorem may_no2 {t:ByteArray} (h:(mayP W t s).1=false):mayP W t s=(false,s):=by
 rcases may_cases W t s with e|⟨e,_⟩
 ·exact e
 ·rw[e] at h;cases h
theorem may_other {t u:ByteArray} (h:(mayP W t s).1=true) (hu:u≠t):(mayP W u s).1=false:=by
 rw[← may_split] at h ⊢
 simp only[Bool.and_eq_true,Bool.not_eq_true'] at h
 rw[h.1]
 unfold isP Wd.says at *
 simp only[Bool.and_eq_true,decide_eq_true_eq] at h
 have:¬ (W.look s.at_).text=u:=fun e=>hu (e.symm.trans h.2.2)
 simp[this]
theorem opP_none {l:List (ByteArray×Int)} (h:∀ p∈l,(mayP W p.1 s).1=false):opP W l s=(0,s):=by
 induction l with
 | nil=>rfl
 | cons p l ih =>
  obtain⟨t,op⟩:=p
  show (if (mayP W t s).1 then _ else _)=_
  rw[h (t,op) (by simp),if_neg Bool.false_ne_true]
  exact ih fun q hq=>h q (by simp[hq])
theorem opP_hit {l:List (ByteArray×Int)} {t:ByteArray} {op:Int} (h:(mayP W t s).1=true) (hin:(t,op)∈l) (hu:∀ p∈l,p.1=t→p.2=op):opP W l s=(op,s.on):=by
 induction l with
 | nil=>cases hin
 | cons p l ih =>
  obtain⟨u,o⟩:=p
  show (if (mayP W u s).1 then _ else _)=_
  by_cases e:u=t
  ·subst e
   obtain rfl:o=op:=hu (u,o) (by simp) rfl
   rw[h,if_pos rfl,(may_yes2 h).1]
  ·rw[may_other h e,if_neg Bool.false_ne_true]
   refine ih ?_ fun q hq=>hu q (by simp[hq])
   rcases List.mem_cons.1 hin with hq|hq
   ·injection hq with e1 e2
    exact absurd e1.symm e
   ·exact hq
structure Binds (W:Wds) (s:PSt) (op p:Int):Prop where
 none_:p=0→op=0∧opP W lvMul s=(0,s)∧opP W lvSum s=(0,s)∧opP W lvCmp s=(0,s)∧opP W lvAnd s=(0,s)∧opP W lvOr s=(0,s)
 some_:p≠0→1≤p∧p≤5∧6≤op∧op≤18∧s.at_<W.l.length∧s.bad=false∧(p≠5→opP W lvMul s=(0,s))∧(p≠4→opP W lvSum s=(0,s))∧(p≠3→opP W lvCmp s=(0,s))∧(p≠2→opP W lvAnd s=(0,s))∧(p≠1→opP W lvOr s=(0,s)) ∧
  (p=5→opP W lvMul s=(op,s.on))∧(p=4→opP W lvSum s=(op,s.on))∧(p=3→opP W lvCmp s=(op,s.on))∧(p=2→opP W lvAnd s=(op,s.on))∧(p=1→opP W lvOr s=(op,s.on))
theorem bind_f0:∀ x∈bindL,1≤x.2.2∧x.2.2≤5∧6≤x.2.1∧x.2.1≤18:=by decide +kernel
theorem bind_f1:∀ x∈bindL,x.2.2≠5→∀ q∈lvMul,q.1≠x.1:=by decide +kernel
theorem bind_f2:∀ x∈bindL,x.2.2≠4→∀ q∈lvSum,q.1≠x.1:=by decide +kernel
theorem bind_f3:∀ x∈bindL,x.2.2≠3→∀ q∈lvCmp,q.1≠x.1:=by decide +kernel
theorem bind_f4:∀ x∈bindL,x.2.2≠2→∀ q∈lvAnd,q.1≠x.1:=by decide +kernel
theorem bind_f5:∀ x∈bindL,x.2.2≠1→∀ q∈lvOr,q.1≠x.1:=by decide +kernel
theorem bind_g1:∀ x∈bindL,x.2.2=5→∃ q∈lvMul,q.1=x.1∧q.2=x.2.1:=by decide +kernel
theorem bind_g2:∀ x∈bindL,x.2.2=4→∃ q∈lvSum,q.1=x.1∧q.2=x.2.1:=by decide +kernel
theorem bind_g3:∀ x∈bindL,x.2.2=3→∃ q∈lvCmp,q.1=x.1∧q.2=x.2.1:=by decide +kernel
theorem bind_g4:∀ x∈bindL,x.2.2=2→∃ q∈lvAnd,q.1=x.1∧q.2=x.2.1:=by decide +kernel
theorem bind_g5:∀ x∈bindL,x.2.2=1→∃ q∈lvOr,q.1=x.1∧q.2=x.2.1:=by decide +kernel
theorem pin {l:List (ByteArray×Int)} {t:ByteArray} {o:Int} (h:∃ q∈l,q.1=t∧q.2=o):(t,o)∈l:=by
 obtain⟨q,hq,rfl,rfl⟩:=h
 exact hq
theorem bind_facts (x:ByteArray×Int×Int) (h:x∈bindL):1≤x.2.2∧x.2.2≤5∧6≤x.2.1∧x.2.1≤18∧(x.2.2≠5→∀ q∈lvMul,q.1≠x.1)∧(x.2.2≠4→∀ q∈lvSum,q.1≠x.1)∧(x.2.2≠3→∀ q∈lvCmp,q.1≠x.1)∧(x.2.2≠2→∀ q∈lvAnd,q.1≠x.1)∧(x.2.2≠1→∀ q∈lvOr,q.1≠x.1) ∧
  (x.2.2=5→(x.1,x.2.1)∈lvMul)∧(x.2.2=4→(x.1,x.2.1)∈lvSum)∧(x.2.2=3→(x.1,x.2.1)∈lvCmp)∧(x.2.2=2→(x.1,x.2.1)∈lvAnd)∧(x.2.2=1→(x.1,x.2.1)∈lvOr):=by
 obtain⟨a,b,c,d⟩:=bind_f0 x h
 exact⟨a,b,c,d,bind_f1 x h,bind_f2 x h,bind_f3 x h,bind_f4 x h,bind_f5 x h,fun e=>pin (bind_g1 x h e),fun e=>pin (bind_g2 x h e),fun e=>pin (bind_g3 x h e),fun e=>pin (bind_g4 x h e),fun e=>pin (bind_g5 x h e)⟩
theorem lv_uniq:(∀ p∈lvMul,∀ q∈lvMul,q.1=p.1→q.2=p.2)∧(∀ p∈lvSum,∀ q∈lvSum,q.1=p.1→q.2=p.2)∧(∀ p∈lvCmp,∀ q∈lvCmp,q.1=p.1→q.2=p.2)∧(∀ p∈lvAnd,∀ q∈lvAnd,q.1=p.1→q.2=p.2)∧(∀ p∈lvOr,∀ q∈lvOr,q.1=p.1→q.2=p.2):=by decide +kernel
theorem lv_in:(∀ q∈lvMul,∃ x∈bindL,x.1=q.1)∧(∀ q∈lvSum,∃ x∈bindL,x.1=q.1)∧(∀ q∈lvCmp,∃ x∈bindL,x.1=q.1)∧(∀ q∈lvAnd,∃ x∈bindL,x.1=q.1)∧(∀ q∈lvOr,∃ x∈bindL,x.1=q.1):=by decide +kernel
theorem binds_of (W:Wds) (s:PSt):Binds W s (bindP W s).1 (bindP W s).2:=by
 unfold bindP
 cases hf:bindL.find? fun x=>(mayP W x.1 s).1 with
 | none =>
  have hn:∀ x∈bindL,(mayP W x.1 s).1=false:=fun x hx=>by simpa using List.find?_eq_none.1 hf x hx
  have hl:∀ {l:List (ByteArray×Int)},(∀ q∈l,∃ x∈bindL,x.1=q.1)→opP W l s=(0,s):=fun h=>opP_none fun q hq=>by
   obtain⟨x,hx,e⟩:=h q hq
   rw[← e]
   exact hn x hx
  obtain⟨i1,i2,i3,i4,i5⟩:=lv_in
  exact⟨fun _=>⟨rfl,hl i1,hl i2,hl i3,hl i4,hl i5⟩,fun h=>absurd rfl h⟩
 | some x =>
  have hx:=List.find?_some hf
  have hin:=List.mem_of_find?_eq_some hf
  obtain⟨f1,f2,f3,f4,n1,n2,n3,n4,n5,m1,m2,m3,m4,m5⟩:=bind_facts x hin
  obtain⟨u1,u2,u3,u4,u5⟩:=lv_uniq
  obtain⟨hm,hb,hlt⟩:=may_yes2 hx
  have hno:∀ {l:List (ByteArray×Int)},(∀ q∈l,q.1≠x.1)→opP W l s=(0,s):=fun h=>opP_none fun q hq=>may_other hx (h q hq)
  refine⟨fun h=>?_,fun _=>⟨f1,f2,f3,f4,hlt,hb,fun h=>hno (n1 h),fun h=>hno (n2 h),fun h=>hno (n3 h),fun h=>hno (n4 h),fun h=>hno (n5 h),fun h=>opP_hit hx (m1 h) (u1 _ (m1 h)),fun h=>opP_hit hx (m2 h) (u2 _ (m2 h)),fun h=>opP_hit hx (m3 h) (u3 _ (m3 h)),fun h=>opP_hit hx (m4 h) (u4 _ (m4 h)),fun h=>opP_hit hx (m5 h) (u5 _ (m5 h))⟩⟩
  have h:x.2.2=0:=h
  omega
theorem bind_at {k:Nat} {x:ByteArray×Int×Int} (hk:bindL[k]?=some x) (h:∀ y∈bindL.take k,(mayP W y.1 s).1=false) (hx:(mayP W x.1 s).1=true):bindP W s=x.2:=by
 unfold bindP
 obtain⟨h1,h2⟩:=List.getElem?_eq_some_iff.1 hk
 have e:bindL=bindL.take k++(x::bindL.drop (k+1)):=by
  rw[← h2,← List.drop_eq_getElem_cons h1,List.take_append_drop]
 rw[e,List.find?_append,List.find?_eq_none.2 (fun y hy=>by simp[h y hy]),List.find?_cons,hx]
 rfl
theorem bind_not (h:∀ y∈bindL,(mayP W y.1 s).1=false):bindP W s=(0,0):=by
 unfold bindP
 rw[List.find?_eq_none.2 (fun y hy=>by simp[h y hy])]
 rfl
end
end Go.Proofs.YtdgapmnojmhllaaGreatDoor
