/- Parts of this proof, one behind the other: ParZ6, ParZ7, LwP, LxA, RfC, RfD, RfE, RfF. -/
import Derived.Test.YtgbgiknfejpcoaaGreatPx31
import Derived.Test.YtgbgiknfejpcoaaGreatPx7
import Derived.BigQuiet
set_option maxRecDepth 1000000
set_option maxHeartbeats 40000000
namespace Go.Proofs.YtgbgiknfejpcoaaGreat
open Go.RowKit Go.Afx
def endX {α:Type} (z:α) (right:α→Bool) (W:Wds) (r:α×PSt):α×Int×Int :=
 if r.2.over then (z,0,14) else if r.2.bad||decide (r.2.at_<W.l.length) then (z,(W.look r.2.at_).at_,12) else if right r.1 then (r.1,0,0) else (z,0,14)
def textX {α:Type} (z:α) (right:α→Bool) (run:Wds→PSt→α×PSt) (L:List UInt8):α×Int×Int :=
 if 8000<L.length then (z,0,5) else match lexL L with
  | .inl a=>(z,(a:Int),12)
  | .inr ws=>endX z right ⟨ws,L.length⟩ (run ⟨ws,L.length⟩ PSt.start)
def pr0:Pr:=⟨nil0,nil0,nil0,0,[],[]⟩
def procX (L:List UInt8):Pr×Int×Int:=textX pr0 (rightB 9000) procP L
theorem textX_long {α:Type} {z:α} {right:α→Bool} {run:Wds→PSt→α×PSt} {L:List UInt8} (h:8000<L.length):textX z right run L=(z,0,5):=by unfold textX;rw[if_pos h]
theorem textX_inl {α:Type} {z:α} {right:α→Bool} {run:Wds→PSt→α×PSt} {L:List UInt8} {a:Nat} (h:¬ 8000<L.length) (hl:lexL L=.inl a):textX z right run L=(z,(a:Int),12):=by unfold textX;rw[if_neg h,hl]
theorem textX_inr {α:Type} {z:α} {right:α→Bool} {run:Wds→PSt→α×PSt} {L:List UInt8} {ws:List Wd} (h:¬ 8000<L.length) (hl:lexL L=.inr ws):textX z right run L=endX z right ⟨ws,L.length⟩ (run ⟨ws,L.length⟩ PSt.start):=by unfold textX;rw[if_neg h,hl]
theorem len_listP {α:Type} (W:Wds) {one:PSt→α×PSt} (hU:∀ s,Ge s (one s).2):∀ (k:Nat) (l:List α) (s:PSt),(listP W one k l s).1.length≤l.length+((listP W one k l s).2.at_-s.at_):=by
 intro k
 induction k with
 | zero=>intro l s;show l.length≤_;omega
 | succ k ih =>
  intro l s
  unfold listP
  split
  ·rename_i h
   have h0:(mayP W (str [44]) s).2.at_=s.at_+1:=by rw[(may_yes h).1];rfl
   have h1:=(hU (mayP W (str [44]) s).2).1
   have h2:=ih (l++[(one (mayP W (str [44]) s).2).1]) (one (mayP W (str [44]) s).2).2
   have h3:=(up_listP W hU k (l++[(one (mayP W (str [44]) s).2).1]) (one (mayP W (str [44]) s).2).2).1
   rw[List.length_append,List.length_singleton] at h2
   omega
  ·show l.length≤_;omega
theorem params_few (W:Wds) (s:PSt):(procP W s).1.params.length≤1+(procP W s).2.at_:=by
 have hb:=fun s=>(up_block W W.fuel s).1
 have hf:∀ s,s.at_≤(fuelP W s).2.at_:=fun s=>by
  rw[fuelP_eq]
  split
  ·exact((ge_may W _ s).trans (up_num W _)).1
  ·exact Nat.le_refl _
 have hr:∀ s,s.at_≤(fromP W s).2.at_:=fun s=>by
  unfold fromP
  split
  ·exact((ge_may W _ s).trans (up_name W _)).1
  ·split
   ·exact((ge_may W _ s).trans (up_name W _)).1
   ·exact Nat.le_refl _
 have hh:∀ s,(headP W s).1.length≤1+(headP W s).2.at_:=fun s=>by
  unfold headP
  split
  ·simp
  ·have h1:=len_listP W (up_param W) W.fuel [(paramP W s).1] (paramP W s).2
   have h2:=(up_listP W (up_param W) W.fuel [(paramP W s).1] (paramP W s).2).1
   show (listP W (paramP W) W.fuel [(paramP W s).1] (paramP W s).2).1.length≤1+(listP W (paramP W) W.fuel [(paramP W s).1] (paramP W s).2).2.at_
   rw[List.length_singleton] at h1
   omega
 rw[procP_eq]
 have h1:=hh (enterP (mustP W [str [40]] (nameP W (mustP W [str [112,114,111,99]] s)).2))
 generalize headP W (enterP (mustP W [str [40]] (nameP W (mustP W [str [112,114,111,99]] s)).2))=l at *
 have h2:=((ge_must W (str [41]) l.2).trans (ge_leave _)).1
 have h3:=hr (leaveP (mustP W [str [41]] l.2))
 have h4:=hf (fromP W (leaveP (mustP W [str [41]] l.2))).2
 have h5:=hb (fuelP W (fromP W (leaveP (mustP W [str [41]] l.2))).2).2
 show l.1.length≤1+(blockP W W.fuel (fuelP W (fromP W (leaveP (mustP W [str [41]] l.2))).2).2).2.at_
 omega
theorem rightProc_clo (F:Nat→Prop) (gx:Nat) (p:Pr) (row:List Value) (w:World) (hx:IsBlk w gx 36 row.toArray) (h:PrAt F 9000 w row p) (hbig:p.params.length≤1000000) :
  Calls Tryz.prog 76 #[.pointer (some ⟨gx,0,none⟩)] w fun e w'=>e=.returned (.bool (rightB 9000 p))∧Below w.heap.size w w':=by
 have hr:=right_any F 9000 p row w h (by omega) hbig
 obtain⟨_,_,_,_,Ap,np,cp,Ab,nb,cb,rfl,_⟩:=h
 obtain⟨x0,x1,x2,x3,x4,x5,xl⟩:=cells6 hx
 generalize rightB 9000 p=q at *
 have Hr:=Lhd hr
 clear hr hx
 go_enter Tryz.func76,Tryz.ntmps76
 go_wp2_with (fail)
 refine Hr.out.mono ?_
 rintro e w2 ⟨rfl,hb⟩
 have Hb:=Lhd hb
 clear hb
 go_wp2
 go_ret
 exact⟨rfl,Hb.out⟩
def SaidProc (gx:Nat) (w:World) (x:Pr×Int×Int) (e:Ending) (w':World):Prop:=e=.returned (.tuple #[.int .i64 x.2.1,.int .i64 x.2.2])∧But (fun k=>k=gx) w w'∧(x.2.2=0→(∃ row,IsBlk w' gx 36 row.toArray∧PrAt (Fr w) 9000 w' row x.1)∧x.1.params.length≤1000000)
theorem parsedProc_any (s:ByteArray) (gx g0:Nat) (w:World) (hx:IsBlk w gx 36 zeroP) (h0:g0<w.heap.size∧g0≠gx) :
  Calls Tryz.prog 32 #[.string s,.func (.func 74) #[] #[.pointer (some ⟨gx,0,none⟩)],.func (.func 76) #[] #[.pointer (some ⟨gx,0,none⟩)]] w (SaidProc gx w (procX s.data.toList)):=by
 have hwd:=lexWords_any s w
 have Hx:=Lhd hx
 unfold WordsSaid at hwd
 rw[szl] at hwd
 rcases Nat.lt_or_ge 8000 s.size with h8|h8
 ·simp only[if_pos h8] at hwd
  have e:procX s.data.toList=(pr0,0,5):=textX_long (by rw[szl];exact h8)
  rw[e]
  have Hwd:=Lhd hwd
  clear hwd hx h0 h8 e
  go_enter Tryz.func32,Tryz.ntmps32
  go_wp2_with (fail)
  refine Hwd.out.mono ?_
  rintro e w1 ⟨rfl,hb⟩
  have Hb:=Lhd hb
  clear hb
  go_wp2
  go_ret2
  exact⟨rfl,But.of_below Hb.out,fun h=>by cases h⟩
 ·have h8n:¬ 8000<s.size:=by omega
  simp only[if_neg h8n] at hwd
  cases hl:lexL s.data.toList with
  | inl a =>
   rw[hl] at hwd
   have e:procX s.data.toList=(pr0,(a:Int),12):=textX_inl (by rw[szl];exact h8n) hl
   rw[e]
   have Hwd:=Lhd hwd
   clear hwd hx h0 h8 h8n e hl
   go_enter Tryz.func32,Tryz.ntmps32
   go_wp2_with (fail)
   refine Hwd.out.mono ?_
   rintro e w1 ⟨hS,hb⟩
   have hS:e=.returned (.tuple #[.slice none 0 0,.int .i64 a,.int .i64 12]):=hS
   subst hS
   have Hb:=Lhd hb
   clear hb
   go_wp2
   go_ret2
   exact⟨rfl,But.of_below Hb.out,fun h=>by cases h⟩
  | inr ws =>
   rw[hl] at hwd
   have e:procX s.data.toList=endX pr0 (rightB 9000) ⟨ws,s.data.toList.length⟩ (procP ⟨ws,s.data.toList.length⟩ PSt.start):=textX_inr (by rw[szl];exact h8n) hl
   rw[szl] at e
   rw[e]
   have Hwd:=Lhd hwd
   obtain⟨W,HW⟩:∃ W:Wds,Hid (W=⟨ws,s.size⟩):=⟨_,rfl⟩
   rw[← HW.out]
   have hWl:W.l=ws:=by rw[HW.out]
   have hWe:W.end_=s.size:=by rw[HW.out]
   have HWl:=Lhd (And.intro hWl hWe)
   have H8:=Lhd h8
   have H0:=Lhd h0
   clear hwd hx h0 h8 h8n e hl hWl hWe
   go_enter Tryz.func32,Tryz.ntmps32
   go_wp2_with (fail)
   refine Hwd.out.mono ?_
   rintro e w1 ⟨⟨A,c,rfl,hown,hok,hlen⟩,hb1⟩
   have hon:=on_any w.heap.size g0 A c W w1 (by rw[HWl.out.1];have:=H8.out;omega) (by rw[HWl.out.1];exact hown) (by rw[HWl.out.1];exact hok) (by rw[HWl.out.2];have:=H8.out;unfold okI;omega) (Nat.lt_of_lt_of_le H0.out.1 hb1.size)
   rw[HWl.out.1,HWl.out.2] at hon
   have H1:=Lhd (And.intro hb1 hlen)
   have Hon:=Lhd hon
   clear hown hok hlen hb1 hon
   go_wp2_with (fail)
   refine Hon.out.mono ?_
   rintro e w2 ⟨gc,gw,rfl,hcu,hgw,hgw2,hgc,hb2⟩
   have hx2:=(Hx.out.as_was (H1.out.1.block _ Hx.out.lt)).as_was (hb2.block _ (Nat.lt_of_lt_of_le Hx.out.lt H1.out.1.size))
   have hal:=(Below.refl w2.heap.size w2).alloc (Nat.le_refl _) (.cells #[.pointer (some ⟨gc,0,none⟩),.int .i64 0,.bool false,.bool false] 148)
   have hz1:=H1.out.1.size
   have hz2:=hb2.size
   have hz0:=H0.out
   have hzx:=Hx.out.lt
   have hgcl:=hcu.lt
   have hoff:=hcu.off
   obtain⟨gp,Hgp⟩:∃ gp,Hid (gp=w2.heap.size):=⟨_,rfl⟩
   have hP:PAt gp gc gw W PSt.start (w2.alloc (.cells #[.pointer (some ⟨gc,0,none⟩),.int .i64 0,.bool false,.bool false] 148)):=by
    rw[Hgp.out]
    exact⟨IsBlk.laid _ _ _,hcu.below hal,by omega,by omega,by simp;omega⟩
   have hx3:=hx2.alloc (.cells #[.pointer (some ⟨gc,0,none⟩),.int .i64 0,.bool false,.bool false] 148)
   have hb3:=H1.out.1.trans ((hb2.trans (hal.mono hz2)).mono hz1)
   obtain⟨w3,Hw3⟩:∃ w3,Hid (w3=w2.alloc (.cells #[.pointer (some ⟨gc,0,none⟩),.int .i64 0,.bool false,.bool false] 148)):=⟨_,rfl⟩
   rw[← Hw3.out] at hP hx3 hb3
   have hne:gp≠gx∧gc≠gx∧gw≠gx:=by have:=Hgp.out;refine⟨by omega,by omega,?_⟩;rcases hgw2 with e|e<;>omega
   have hfr:w.heap.size≤gp∧w.heap.size≤gc:=by have:=Hgp.out;omega
   have hW:W.l.length≤1000000:=by rw[HWl.out.1];have:=H1.out.2;have:=H8.out;omega
   have hclo:=procClo_any gp gc gw gx W hW PSt.start w3 _ hP hx3 rfl hne
   have hat8:∀ t:PSt,t.at_≤W.l.length→t.at_≤8000:=fun t ht=>by rw[HWl.out.1] at ht;have:=H1.out.2;have:=H8.out;omega
   have hlow:=fun w' row D (h:PrAt (Fr w3) D w' row (procP W PSt.start).1) (ht:(procP W PSt.start).2.at_≤W.l.length)=>proc_low W PSt.start h (by have:=hat8 _ ht;omega)
   have hfew:=fun (ht:(procP W PSt.start).2.at_≤W.l.length)=>(show (procP W PSt.start).1.params.length≤1000000 by have:=params_few W PSt.start;have:=hat8 _ ht;omega)
   have H3:=Lhd (And.intro hP (And.intro hb3 (And.intro hne hfr)))
   generalize procP W PSt.start=r at *
   obtain⟨p,t⟩:=r
   simp only at hlow hclo hfew
   have Hclo:=Lhd hclo
   have Hlow:=Lhd hlow
   have Hfew:=Lhd hfew
   clear hfew
   clear hcu hgw hgw2 hgc hb2 hx2 hal hz1 hz2 hz0 hzx hgcl hoff hP hx3 hb3 hne hfr hclo hlow hat8 hW
   go_upto_region 5 with (fail)
   rw[← Hw3.out,← Hgp.out]
   go_wp2_with (fail)
   refine Hclo.out.mono ?_
   rintro e w4 ⟨rfl,⟨row,D,hxr,hpr⟩,hP,hB⟩
   obtain⟨d0,d1,d2,d3,dg⟩:=cells4 hP.blk
   have hpr9:=Hlow.out w4 row D hpr hP.le
   have hB0:But (fun k=>k=gx) w w4:=(But.of_below H3.out.2.1).trans hB (fun i hi=>by have:=H3.out.2.2.2;rcases hi with e|e|e;exact .inr (by omega);exact .inr (by omega);exact .inl e)
   have H4:=Lhd (And.intro hP (And.intro hxr (And.intro hpr9 hB0)))
   clear hpr hpr9 hB hB0 hxr
   cases hov:t.over with
   | true =>
    rw[hov] at d2
    have e:endX pr0 (rightB 9000) W (p,t)=(pr0,0,14):=by unfold endX;rw[if_pos hov]
    have He:=Lhd e
    clear hov e hP
    go_wp2
    go_ret2
    rw[He.out]
    exact⟨rfl,H4.out.2.2.2,fun h=>by cases h⟩
   | false =>
    rw[hov] at d2
    have hlf:=left_any _ gc t.at_ W w4 hP.cu
    have hwo:=fun w5 (h5:PAt gp gc gw W t w5)=>word_any _ gc t.at_ W w5 h5.cu
    have Hlf:=Lhd hlf
    have Hwo:=Lhd hwo
    clear hlf hwo
    have hbadE:(t.bad||decide (t.at_<W.l.length))=true→endX pr0 (rightB 9000) W (p,t)=(pr0,(W.look t.at_).at_,12):=fun h=>by
     unfold endX
     rw[if_neg (by rw[hov];decide),if_pos h]
    have hfd:∀ (a:Int) (b:ByteArray) (c d:Int) (W:World),(Instr.field 150 (.agg #[.int .i64 a,.string b,.int .i64 c,.int .i64 d]) 3).run Tryz.prog W=.ok (.int .i64 d) W:=fun _ _ _ _ _=>by kernel_rfl
    cases hbad:t.bad with
    | true =>
     rw[hbad] at d3
     have e:=hbadE (by rw[hbad];rfl)
     have He:=Lhd e
     generalize hlk:W.look t.at_=y at *
     obtain⟨yk,yt,yn,ya⟩:=y
     clear hov hbad e hbadE hP hlk
     simp only[wrow] at Hwo
     go_wp2_with (fail)
     refine(Hwo.out _ H4.out.1).mono ?_
     rintro e w5 ⟨rfl,hb5⟩
     have Hb5:=Lhd hb5
     clear hb5
     go_wp2
     go_ret2
     rw[He.out]
     exact⟨rfl,H4.out.2.2.2.then_below Hb5.out,fun h=>by cases h⟩
    | false =>
     rw[hbad] at d3
     rcases Nat.lt_or_ge t.at_ W.l.length with hlt|hge
     ·have e:=hbadE (by rw[hbad];simpa using hlt)
      have He:=Lhd e
      have hpos:(0:Int)<((W.l.length-t.at_:Nat):Int):=by omega
      generalize W.l.length-t.at_=left at *
      generalize hlk:W.look t.at_=y at *
      obtain⟨yk,yt,yn,ya⟩:=y
      clear hov hbad e hbadE hP hlk hlt
      simp only[wrow] at Hwo
      go_wp2_with (fail)
      refine Hlf.out.mono ?_
      rintro e w5 ⟨rfl,hb5⟩
      have hP5:=H4.out.1.below hb5
      have Hb5:=Lhd (And.intro hP5 hb5)
      have hk5:=hP5.blk
      clear d0 d1 d2 d3 dg
      obtain⟨d0,d1,d2,d3,dg⟩:=cells4 hk5
      clear hb5 hP5 hk5
      go_wp2_with (fail)
      refine(Hwo.out _ Hb5.out.1).mono ?_
      rintro e w6 ⟨rfl,hb6⟩
      have Hb6:=Lhd hb6
      clear hb6
      go_wp2
      go_ret2
      rw[He.out]
      exact⟨rfl,(H4.out.2.2.2.then_below Hb5.out.2).then_below Hb6.out,fun h=>by cases h⟩
     ·have hz:W.l.length-t.at_=0:=by omega
      rw[hz] at Hlf
      have hend:endX pr0 (rightB 9000) W (p,t)=if rightB 9000 p then (p,0,0) else (pr0,0,14):=by
       unfold endX
       rw[if_neg (by rw[hov];decide),if_neg (by rw[hbad];simpa using hge)]
      have hf6:=Hfew.out hP.le
      have Hf6:=Lhd hf6
      have hrc:=fun w5 (h5:Below w4.heap.size w4 w5)=>rightProc_clo (Fr w3) gx p row w5 (H4.out.2.1.as_was (h5.block _ H4.out.2.1.lt)) (H4.out.2.2.1.below h5) hf6
      have Hend:=Lhd hend
      generalize rightB 9000 p=q at *
      have Hrc:=Lhd hrc
      clear hov hbad hbadE hz hrc hP hge hend hf6
      cases q with
      | true =>
       have hend:=Hend.out
       rw[if_pos rfl] at hend
       have He:=Lhd hend
       clear hend
       go_wp2_with (fail)
       refine Hlf.out.mono ?_
       rintro e w5 ⟨rfl,hb5⟩
       have Hb5:=Lhd hb5
       clear hb5
       go_wp2_with (fail)
       refine(Hrc.out _ Hb5.out).mono ?_
       rintro e w6 ⟨rfl,hb6⟩
       have Hb6:=Lhd (Hb5.out.trans (hb6.mono Hb5.out.size))
       clear hb6
       go_wp2
       go_ret2
       rw[He.out]
       refine⟨rfl,H4.out.2.2.2.then_below Hb6.out,fun _=>⟨⟨row,H4.out.2.1.as_was (Hb6.out.block _ H4.out.2.1.lt),?_⟩,Hf6.out⟩⟩
       exact PrAt.conv (fun k (hk:w3.heap.size≤k)=>by show w.heap.size≤k;have:=H3.out.2.1.size;omega) (Kept.of_below Hb6.out) (Nat.le_refl 9000) H4.out.2.2.1
      | false =>
       have hend:=Hend.out
       rw[if_neg (by decide)] at hend
       have He:=Lhd hend
       clear hend
       go_wp2_with (fail)
       refine Hlf.out.mono ?_
       rintro e w5 ⟨rfl,hb5⟩
       have Hb5:=Lhd hb5
       clear hb5
       go_wp2_with (fail)
       refine(Hrc.out _ Hb5.out).mono ?_
       rintro e w6 ⟨rfl,hb6⟩
       have Hb6:=Lhd (Hb5.out.trans (hb6.mono Hb5.out.size))
       clear hb6
       go_wp2
       go_ret2
       rw[He.out]
       exact⟨rfl,H4.out.2.2.2.then_below Hb6.out,fun h=>by cases h⟩
theorem textX_zero {α:Type} (z:α) (right:α→Bool) (run:Wds→PSt→α×PSt) (L:List UInt8):((textX z right run L).2.2=0→(textX z right run L).2.1=0)∧((textX z right run L).2.2≠0→(textX z right run L).1=z):=by
 unfold textX
 split
 ·exact⟨fun h=>(by cases h),fun _=>rfl⟩
 ·split
  ·exact⟨fun h=>(by cases h),fun _=>rfl⟩
  ·unfold endX
   split
   ·exact⟨fun h=>(by cases h),fun _=>rfl⟩
   ·split
    ·exact⟨fun h=>(by cases h),fun _=>rfl⟩
    ·split
     ·exact⟨fun _=>rfl,fun h=>absurd rfl h⟩
     ·exact⟨fun h=>(by cases h),fun _=>rfl⟩
theorem ret_Proc3 {fn:Func} {p u v:Tmp} {tmps:Array Value} {w:World} {g:Nat} {t:TypeId} {cs:Array Value} {x y:Value} (h:fn.results=#[.cell p 36,.tmp u,.tmp v]) (hp:tmps.getD p undef=.pointer (some ⟨g,0,none⟩)) (hk:IsBlk w g t cs) (hz:cs.size=6) (hv:tmps.getD u undef=x) (hy:tmps.getD v undef=y):(results fn tmps).run Tryz.prog w=.ok (.tuple #[.agg cs,x,y]) w:=by
 have h2:=run_loadVar_row (P:=Tryz.prog) w g t 36 cs (0,0) _ hk Tryz.underlying36 rfl (by rw[hz];exact sizePr)
 simp only[results,h]
 have e1:tmps[p]?.getD undef=.pointer (some ⟨g,0,none⟩):=by simpa using hp
 have e2:tmps[u]?.getD undef=x:=by simpa using hv
 have e3:tmps[v]?.getD undef=y:=by simpa using hy
 simp[Result.andThen,e1,e2,e3,asAddr,h2]
def ProcGives (w:World) (x:Pr×Int×Int) (e:Ending) (w':World):Prop:=(∃ row,e=.returned (.tuple #[.agg row.toArray,.int .i64 x.2.1,.int .i64 x.2.2])∧PrAt (Fr w) 9000 w' row x.1)∧Below w.heap.size w w'∧x.1.params.length≤1000000
theorem pr0_at (F:Nat→Prop) (w:World):PrAt F 9000 w [.string ⟨#[]⟩,.string ⟨#[]⟩,.string ⟨#[]⟩,.int .i64 0,.slice none 0 0,.slice none 0 0] pr0:=⟨okS_0,okS_0,okS_0,okI_0,none,0,0,none,0,0,rfl,LsAt.nil_ _ _ _ _,sts_nil _ _ _⟩
theorem parseProc_any (s:ByteArray) (w:World):Calls Tryz.prog 37 #[.string s] w (ProcGives w (procX s.data.toList)):=by
 obtain⟨w1,Hw1⟩:∃ w1,Hid (w1=(w.alloc (.cells zeroP 36)).alloc (.cells zeroP 36)):=⟨_,rfl⟩
 have hb1:Below w.heap.size w w1:=by rw[Hw1.out];exact((Below.refl _ _).alloc (Nat.le_refl _) _).alloc (by simp) _
 have hkr:IsBlk w1 w.heap.size 36 zeroP:=by rw[Hw1.out];exact(IsBlk.laid _ _ _).alloc _
 have hkx:IsBlk w1 (w.heap.size+1) 36 zeroP:=by rw[Hw1.out];exact blk_new (by simp)
 have hsz:w1.heap.size=w.heap.size+2:=by rw[Hw1.out];simp
 have hp:=parsedProc_any s (w.heap.size+1) w.heap.size w1 hkx (by omega)
 have hz:=textX_zero pr0 (rightB 9000) procP s.data.toList
 have hz:((procX s.data.toList).2.2=0→(procX s.data.toList).2.1=0)∧((procX s.data.toList).2.2≠0→(procX s.data.toList).1=pr0):=hz
 generalize procX s.data.toList=x at *
 obtain⟨p,at_,er⟩:=x
 simp only at hz
 have Hp:=Lhd hp
 have Hz:=Lhd hz
 have Hk:=Lhd (And.intro hb1 (And.intro hkr hsz))
 clear hp hz hb1 hkr hkx hsz
 go_enter Tryz.func37,Tryz.ntmps37
 go_upto_region 2 with (fail)
 rw[← Hw1.out]
 go_wp2_with (fail)
 refine Hp.out.mono ?_
 rintro e w2 ⟨rfl,hB,hpr⟩
 have hsz:=Hk.out.2.2
 have hkr2:=Hk.out.2.1.as_was (hB.block _ Hk.out.2.1.lt (by omega))
 obtain⟨x0,x1,x2,x3,x4,x5,xl⟩:=cells6 hkr2
 have f2:=hkr2.frozen
 have hb2:Below w.heap.size w w2:=Hk.out.1.trans (hB.below' (by omega) (fun i hi=>by omega))
 have H2:=Lhd (And.intro hkr2 hb2)
 have Hpr:=Lhd hpr
 clear hB hpr hsz hkr2 hb2
 have hlay:∀ (v0 v1 v2 v3 v4 v5:Value),Below w.heap.size w (lay6 w2 w.heap.size v0 v1 v2 v3 v4 v5):=fun v0 v1 v2 v3 v4 v5=>H2.out.2.trans ((lay6_but w2 w.heap.size v0 v1 v2 v3 v4 v5).below' H2.out.2.size (fun i hi=>by omega))
 have Hlay:=Lhd hlay
 clear hlay
 rcases Classical.em (er=0) with he|he
 ·have q0:(er==0)=true:=by rw[beq_iff_eq];exact he
  have q1:(er !=0)=false:=by simp[he]
  obtain⟨⟨row,hkx,hpr⟩,hfew⟩:=Hpr.out he
  have hat:=Hz.out.1 he
  subst hat
  subst he
  have hprw:=hpr
  obtain⟨_,_,_,_,Ap,np,cp,Ab,nb,cb,rfl,_⟩:=hprw
  obtain⟨y0,y1,y2,y3,y4,y5,yl⟩:=cells6 hkx
  have Hpr2:=Lhd hpr
  have Hfew:=Lhd hfew
  clear hfew
  clear hpr hkx q0 q1
  go_wp2
  rw[lay6_eq]
  refine bodyPost_ret (ret_Proc3 Tryz.results37 rfl (lay6_blk _ _ _ _ _ _ H2.out.1) rfl rfl rfl) rfl ⟨⟨_,rfl,?_⟩,Hlay.out _ _ _ _ _ _,Hfew.out⟩
  exact PrAt.conv (fun k (hk:w1.heap.size≤k)=>by show w.heap.size≤k;have:=Hk.out.2.2;omega) (Kept.of_but (lay6_but w2 w.heap.size _ _ _ _ _ _) fun k (hk:w1.heap.size≤k) e=>by have:=Hk.out.2.2;omega) (Nat.le_refl 9000) Hpr2.out
 ·have q1:(er !=0)=true:=by simpa using he
  have q0:(er==0)=false:=by simpa using he
  have hz:=Hz.out.2 he
  subst hz
  clear he
  go_wp2
  rw[lay6_eq]
  exact bodyPost_ret (ret_Proc3 Tryz.results37 rfl (lay6_blk _ _ _ _ _ _ H2.out.1) rfl rfl rfl) rfl ⟨⟨_,rfl,pr0_at _ _⟩,Hlay.out _ _ _ _ _ _,Nat.zero_le _⟩
def NoBlank (L:List UInt8) (k:Nat):Prop:=k<L.length∧∃ c,L[k]?=some c∧wsB c=false
theorem lexH_at (L:List UInt8):∀ (f at_:Nat),at_≤L.length→L.length-at_<f→(∀ c,(L.drop at_).head?=some c→wsB c=false)→match lexH f at_ (L.drop at_) with
  | .inl a=>NoBlank L a
  | .inr ws=>∀ x∈ws,∃ k:Nat,x.at_=k∧NoBlank L k:=by
 intro f
 induction f with
 | zero=>intro at_ h1 h2;omega
 | succ f ih =>
  intro at_ h1 h2 h3
  rcases Nat.lt_or_ge at_ L.length with hlt|hge
  ·have hd:L.drop at_=L[at_]::L.drop (at_+1):=List.drop_eq_getElem_cons hlt
   have hnb:NoBlank L at_:=⟨hlt,L[at_],List.getElem?_eq_getElem hlt,h3 _ (by rw[hd];rfl)⟩
   rw[lexH_go _ _ _ (by rw[hd];exact List.cons_ne_nil _ _)]
   cases hn:nextX (L.drop at_) with
   | none=>exact hnb
   | some x =>
    obtain⟨l1,l2⟩:=next_len hn
    rw[List.length_drop] at l2
    simp only
    rw[List.drop_drop]
    have hb:=blk_le (L.drop (at_+x.len)) false
    have hs:=(blk_stop (L.drop (at_+x.len))).1
    rw[List.length_drop] at hb
    rw[List.drop_drop] at hs ⊢
    have h4:=ih (at_+x.len+blk false (L.drop (at_+x.len))) (by omega) (by omega) hs
    cases hr:lexH f (at_+x.len+blk false (L.drop (at_+x.len))) (L.drop (at_+x.len+blk false (L.drop (at_+x.len)))) with
    | inl a=>rw[hr] at h4;exact h4
    | inr ws =>
     rw[hr] at h4
     intro y hy
     rcases List.mem_cons.1 hy with rfl|hy
     ·exact⟨at_,rfl,hnb⟩
     ·exact h4 y hy
  ·rw[List.drop_eq_nil_of_le hge]
   intro y hy
   cases hy
theorem lexL_at (L:List UInt8):match lexL L with
  | .inl a=>NoBlank L a
  | .inr ws=>∀ x∈ws,∃ k:Nat,x.at_=k∧NoBlank L k :=
 lexH_at L (L.length+1) (blk false L) (blk_le L false) (by omega) (blk_stop L).1
def PosSaid (L:List UInt8) (at_ er:Int):Prop :=
 (er=0∧at_=0)∨(er=5∧at_=0∧8000<L.length)∨(er=14∧at_=0∧¬ 8000<L.length)∨(er=12∧∃ k:Nat,at_=k∧(k=L.length∨NoBlank L k))
def key (x:Wd):Int×ByteArray×Int:=(x.kind,x.text,x.n)
def keyX (x:Nx):Int×ByteArray×Int:=(x.kind,str x.text,x.n)
inductive LexR:List UInt8→List (Int×ByteArray×Int)→Prop
 | nil:LexR [] []
 | cons {s:List UInt8} {x:Nx} {ks:List (Int×ByteArray×Int)} (hs:s≠[]) (hx:nextX s=some x) (h:LexR ((s.drop x.len).drop (blk false (s.drop x.len))) ks):LexR s (keyX x::ks)
def LexB (s:List UInt8) (ks:List (Int×ByteArray×Int)):Prop:=LexR (s.drop (blk false s)) ks
/- what stands behind -/
theorem nextX_cons (a:UInt8) (r:List UInt8):nextX (a::r)=if lexB a then plainX (a::r) else if a.toNat=39 then quotedX (a::r) else signX (a::r):=by simp[nextX]
def tailT:List UInt8:=[41,32,47,47,32,41,32,109,111,114,101,10]
def wrapT (s:List UInt8):List UInt8:=32::40::32::(s++32::10::tailT)
theorem lexH_fuel:∀ (f f' a:Nat) (s:List UInt8),s.length<f→s.length<f'→lexH f a s=lexH f' a s:=by
 intro f
 induction f with
 | zero=>intro f' a s h;omega
 | succ f ih =>
  intro f' a s h1 h2
  obtain⟨f',rfl⟩:∃ m,f'=m+1:=⟨f'-1,by omega⟩
  by_cases hs:s=[]
  ·subst hs;rfl
  ·rw[lexH_go _ _ _ hs,lexH_go _ _ _ hs]
   cases hn:nextX s with
   | none=>rfl
   | some x =>
    obtain⟨l1,l2⟩:=next_len hn
    simp only
    rw[ih f' _ _ (by rw[List.length_drop,List.length_drop];omega) (by rw[List.length_drop,List.length_drop];omega)]
def lexA (at_:Nat) (s:List UInt8):Nat ⊕ List Wd:=lexH (s.length+1) (at_+blk false s) (s.drop (blk false s))
theorem lexA_all (s:List UInt8):lexL s=lexA 0 s:=by
 unfold lexL lexA
 rw[Nat.zero_add]
theorem lexA_nil (at_:Nat):lexA at_ []=.inr []:=rfl
theorem lexA_same {a b:Nat} {s t:List UInt8} (h1:a+blk false s=b+blk false t) (h2:s.drop (blk false s)=t.drop (blk false t)):lexA a s=lexA b t:=by
 unfold lexA
 rw[h1,h2]
 exact lexH_fuel _ _ _ _ (by rw[← h2,List.length_drop];omega) (by rw[List.length_drop];omega)
theorem lexA_blank {at_:Nat} {c:UInt8} {r:List UInt8} (h:wsB c=true):lexA at_ (c::r)=lexA (at_+1) r:=by
 have e:blk false (c::r)=blk false r+1:=by rw[blk,if_pos h,Nat.add_comm]
 refine lexA_same (by omega) ?_
 rw[e,List.drop_succ_cons]
def remL (s:List UInt8):Nat:=(s.takeWhile fun c=>decide (c≠10)).length
theorem blk_remark:∀ s:List UInt8,blk true s=remL s+blk false (s.drop (remL s)):=by
 intro s
 induction s with
 | nil=>rfl
 | cons c r ih =>
  by_cases h:c=10
  ·subst h
   have e:remL (10::r)=0:=rfl
   rw[e,List.drop_zero,Nat.zero_add]
   rfl
  ·have h10:c.toNat≠10:=fun e=>h (UInt8.toNat_inj.1 e)
   have e:remL (c::r)=remL r+1:=by
    unfold remL
    rw[List.takeWhile_cons,if_pos (by simpa using h),List.length_cons]
   rw[e,List.drop_succ_cons,blk,if_neg h10,ih]
   omega
theorem lexA_remark {at_:Nat} {r:List UInt8}:lexA at_ (47::47::r)=lexA (at_+remL (47::47::r)) ((47::47::r).drop (remL (47::47::r))):=by
 have e:blk false (47::47::r)=remL (47::47::r)+blk false ((47::47::r).drop (remL (47::47::r))):=by
  rw[← blk_remark]
  rfl
 refine lexA_same (by omega) ?_
 rw[e,← List.drop_drop]
theorem lexA_word {at_:Nat} {c:UInt8} {r:List UInt8} (h:wsB c=false) (h2:¬ (c.toNat=47∧r.head?=some 47)):lexA at_ (c::r)=match nextX (c::r) with
  | none=>.inl at_
  | some x=>conX ⟨x.kind,str x.text,x.n,at_⟩ (lexA (at_+x.len) ((c::r).drop x.len)):=by
 have e:blk false (c::r)=0:=by rw[blk,if_neg (by rw[h];decide),if_neg h2]
 have e1:lexA at_ (c::r)=lexH ((c::r).length+1) at_ (c::r):=by unfold lexA;rw[e];rfl
 rw[e1,lexH_go _ _ _ (List.cons_ne_nil c r)]
 cases hn:nextX (c::r) with
 | none=>rfl
 | some x =>
  obtain⟨l1,l2⟩:=next_len hn
  simp only
  unfold lexA
  rw[lexH_fuel (c::r).length (((c::r).drop x.len).length+1) _ _ (by rw[List.length_drop,List.length_drop];omega) (by rw[List.length_drop];omega)]
theorem refSays_any (x:Wd) (t:ByteArray) (w:World) :
  Calls Tryz.prog 105 #[.agg (wrow x).toArray,.string t] w fun e w'=>e=.returned (.bool (x.says t))∧Below w.heap.size w w':=by
 obtain⟨k,s,n,a⟩:=x
 unfold wrow Wd.says
 simp only[← beqS]
 go_enter Tryz.func105,Tryz.ntmps105
 go_wp2
 all_goals
  go_ret
  refine⟨ret_bool ?_,(Below.refl _ _).alloc (Nat.le_refl _) _⟩
  simp_all
theorem refPart_any (c:UInt8) (w:World):Calls Tryz.prog 53 #[.int .u8 c.toNat] w fun e w'=>e=.returned (.bool (lexB c))∧w=w':=by
 obtain⟨q,hq⟩:∃ q,lexB c=q:=⟨_,rfl⟩
 rw[hq]
 unfold lexB at hq
 have hc:(c.toNat<48)∨(48≤c.toNat∧c.toNat≤57)∨(57<c.toNat∧c.toNat<65)∨(65≤c.toNat∧c.toNat≤90)∨(90<c.toNat∧c.toNat<97∧c.toNat≠95)∨(c.toNat=95)∨(97≤c.toNat∧c.toNat≤122)∨(122<c.toNat):=by omega
 rcases hc with h|h|h|h|h|h|h|h
 ·obtain rfl:false=q:=by
   rw[← hq]
   simp
   omega
  have g0:decide ((97:Int)≤(c.toNat:Int))=false:=by simp;omega
  have g1:decide ((c.toNat:Int)≤122)=true:=by simp;omega
  have g2:decide ((65:Int)≤(c.toNat:Int))=false:=by simp;omega
  have g3:decide ((c.toNat:Int)≤90)=true:=by simp;omega
  have g4:decide ((48:Int)≤(c.toNat:Int))=false:=by simp;omega
  have g5:decide ((c.toNat:Int)≤57)=true:=by simp;omega
  have g6:((c.toNat:Int)==95)=false:=by simp;omega
  go_enter Tryz.func53,Tryz.ntmps53
  go_wp2
  go_ret
  exact⟨rfl,rfl⟩
 ·obtain rfl:true=q:=by
   rw[← hq]
   simp
   omega
  have g0:decide ((97:Int)≤(c.toNat:Int))=false:=by simp;omega
  have g1:decide ((c.toNat:Int)≤122)=true:=by simp;omega
  have g2:decide ((65:Int)≤(c.toNat:Int))=false:=by simp;omega
  have g3:decide ((c.toNat:Int)≤90)=true:=by simp;omega
  have g4:decide ((48:Int)≤(c.toNat:Int))=true:=by simp;omega
  have g5:decide ((c.toNat:Int)≤57)=true:=by simp;omega
  have g6:((c.toNat:Int)==95)=false:=by simp;omega
  go_enter Tryz.func53,Tryz.ntmps53
  go_wp2
  go_ret
  exact⟨rfl,rfl⟩
 ·obtain rfl:false=q:=by
   rw[← hq]
   simp
   omega
  have g0:decide ((97:Int)≤(c.toNat:Int))=false:=by simp;omega
  have g1:decide ((c.toNat:Int)≤122)=true:=by simp;omega
  have g2:decide ((65:Int)≤(c.toNat:Int))=false:=by simp;omega
  have g3:decide ((c.toNat:Int)≤90)=true:=by simp;omega
  have g4:decide ((48:Int)≤(c.toNat:Int))=true:=by simp;omega
  have g5:decide ((c.toNat:Int)≤57)=false:=by simp;omega
  have g6:((c.toNat:Int)==95)=false:=by simp;omega
  go_enter Tryz.func53,Tryz.ntmps53
  go_wp2
  go_ret
  exact⟨rfl,rfl⟩
 ·obtain rfl:true=q:=by
   rw[← hq]
   simp
   omega
  have g0:decide ((97:Int)≤(c.toNat:Int))=false:=by simp;omega
  have g1:decide ((c.toNat:Int)≤122)=true:=by simp;omega
  have g2:decide ((65:Int)≤(c.toNat:Int))=true:=by simp;omega
  have g3:decide ((c.toNat:Int)≤90)=true:=by simp;omega
  have g4:decide ((48:Int)≤(c.toNat:Int))=true:=by simp;omega
  have g5:decide ((c.toNat:Int)≤57)=false:=by simp;omega
  have g6:((c.toNat:Int)==95)=false:=by simp;omega
  go_enter Tryz.func53,Tryz.ntmps53
  go_wp2
  go_ret
  exact⟨rfl,rfl⟩
 ·obtain rfl:false=q:=by
   rw[← hq]
   simp
   omega
  have g0:decide ((97:Int)≤(c.toNat:Int))=false:=by simp;omega
  have g1:decide ((c.toNat:Int)≤122)=true:=by simp;omega
  have g2:decide ((65:Int)≤(c.toNat:Int))=true:=by simp;omega
  have g3:decide ((c.toNat:Int)≤90)=false:=by simp;omega
  have g4:decide ((48:Int)≤(c.toNat:Int))=true:=by simp;omega
  have g5:decide ((c.toNat:Int)≤57)=false:=by simp;omega
  have g6:((c.toNat:Int)==95)=false:=by simp;omega
  go_enter Tryz.func53,Tryz.ntmps53
  go_wp2
  go_ret
  exact⟨rfl,rfl⟩
 ·obtain rfl:true=q:=by
   rw[← hq]
   simp
   omega
  have g0:decide ((97:Int)≤(c.toNat:Int))=false:=by simp;omega
  have g1:decide ((c.toNat:Int)≤122)=true:=by simp;omega
  have g2:decide ((65:Int)≤(c.toNat:Int))=true:=by simp;omega
  have g3:decide ((c.toNat:Int)≤90)=false:=by simp;omega
  have g4:decide ((48:Int)≤(c.toNat:Int))=true:=by simp;omega
  have g5:decide ((c.toNat:Int)≤57)=false:=by simp;omega
  have g6:((c.toNat:Int)==95)=true:=by simp;omega
  go_enter Tryz.func53,Tryz.ntmps53
  go_wp2
  go_ret
  exact⟨rfl,rfl⟩
 ·obtain rfl:true=q:=by
   rw[← hq]
   simp
   omega
  have g0:decide ((97:Int)≤(c.toNat:Int))=true:=by simp;omega
  have g1:decide ((c.toNat:Int)≤122)=true:=by simp;omega
  have g2:decide ((65:Int)≤(c.toNat:Int))=true:=by simp;omega
  have g3:decide ((c.toNat:Int)≤90)=false:=by simp;omega
  have g4:decide ((48:Int)≤(c.toNat:Int))=true:=by simp;omega
  have g5:decide ((c.toNat:Int)≤57)=false:=by simp;omega
  have g6:((c.toNat:Int)==95)=false:=by simp;omega
  go_enter Tryz.func53,Tryz.ntmps53
  go_wp2
  go_ret
  exact⟨rfl,rfl⟩
 ·obtain rfl:false=q:=by
   rw[← hq]
   simp
   omega
  have g0:decide ((97:Int)≤(c.toNat:Int))=true:=by simp;omega
  have g1:decide ((c.toNat:Int)≤122)=false:=by simp;omega
  have g2:decide ((65:Int)≤(c.toNat:Int))=true:=by simp;omega
  have g3:decide ((c.toNat:Int)≤90)=false:=by simp;omega
  have g4:decide ((48:Int)≤(c.toNat:Int))=true:=by simp;omega
  have g5:decide ((c.toNat:Int)≤57)=false:=by simp;omega
  have g6:((c.toNat:Int)==95)=false:=by simp;omega
  go_enter Tryz.func53,Tryz.ntmps53
  go_wp2
  go_ret
  exact⟨rfl,rfl⟩
def onesL:List UInt8:=[40,41,123,125,91,93,44,59,58,46,43,45,42,47,37,60,61,62]
def sgF (s:List UInt8):List UInt8:=match s with
 | []=>[]
 | a::r=>if r.head?=some 61∧(a=60∨a=33∨a=62) then [a,61] else if a∈onesL then [a] else []
theorem sign_eq (s:List UInt8):signX s=if sgF s=[] then none else some ⟨0,sgF s,0,(sgF s).length⟩:=by
 cases s with
 | nil=>rfl
 | cons a r =>
  unfold sgF
  by_cases h:r.head?=some 61∧(a=60∨a=33∨a=62)
  ·simp only[if_pos h]
   obtain⟨h1,h2⟩:=h
   cases r with
   | nil=>cases h1
   | cons b r =>
    have hb:b=61:=Option.some.inj h1
    subst hb
    rcases h2 with rfl|rfl|rfl
    ·rfl
    ·simp[signX,signsL,List.isPrefixOf]
    ·simp[signX,signsL,List.isPrefixOf]
  ·simp only[if_neg h]
   have hno:∀ x:UInt8,(x=60∨x=33∨x=62)→[x,61].isPrefixOf (a::r)=false:=fun x hx=>by
    cases r with
    | nil=>simp[List.isPrefixOf]
    | cons b r =>
     cases hp:[x,61].isPrefixOf (a::b::r) with
     | false=>rfl
     | true =>
      simp[List.isPrefixOf] at hp
      obtain⟨rfl,rfl⟩:=hp
      exact absurd ⟨rfl,hx⟩ h
   have e:signX (a::r)=((onesL.map fun x=>[x]).find? fun g=>g.isPrefixOf (a::r)).map fun g=>⟨0,g,0,g.length⟩:=by
    unfold signX signsL
    rw[List.find?_cons,hno 60 (by simp),List.find?_cons,hno 33 (by simp),List.find?_cons,hno 62 (by simp)]
    rfl
   rw[e]
   have hf:∀ l:List UInt8,((l.map fun x=>[x]).find? fun g=>g.isPrefixOf (a::r))=if a∈l then some [a] else none:=by
    intro l
    induction l with
    | nil=>rfl
    | cons x l ih =>
     rw[List.map_cons,List.find?_cons,ih]
     by_cases hx:x=a
     ·subst hx;simp[List.isPrefixOf]
     ·have hx2:¬ a=x:=fun e=>hx e.symm
      have hb:[x].isPrefixOf (a::r)=false:=by
       cases hp:[x].isPrefixOf (a::r) with
       | false=>rfl
       | true =>
        simp[List.isPrefixOf] at hp
        exact absurd hp hx
      rw[hb]
      simp[hx2]
   rw[hf]
   by_cases hm:a∈onesL
   ·rw[if_pos hm,if_pos hm,if_neg (List.cons_ne_nil a [])];rfl
   ·rw[if_neg hm,if_neg hm,if_pos rfl];rfl
end Go.Proofs.YtgbgiknfejpcoaaGreat
