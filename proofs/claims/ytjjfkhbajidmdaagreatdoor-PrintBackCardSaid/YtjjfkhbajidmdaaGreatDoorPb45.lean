/- Parts of this proof, one behind the other: RtP, RtQ, AgW, SmA, SmB, SmC, AgB. -/
import Derived.Test.YtjjfkhbajidmdaaGreatDoorPb44
import Derived.Test.YtjjfkhbajidmdaaGreatDoorPb22
import Derived.Test.YtjjfkhbajidmdaaGreatDoorPb17
import Derived.Test.YtjjfkhbajidmdaaGreatDoorPb6
import Derived.StillTailTactics
import Derived.Deep.Cut
import Derived.Deep.DeepCutAuto
import Derived.Test.YtjjfkhbajidmdaaGreatDoorPb13
set_option maxRecDepth 1000000
set_option maxHeartbeats 40000000
namespace Go.Proofs.YtjjfkhbajidmdaaGreatDoor
open Go.RowKit Go.Afx
theorem RG:∀ (d:Nat) {k:Nat} {e:Ex},d≤k→aA d e=true→aA k e=true:=by
 intro d
 induction d with
 | zero=>intro k e _ h;cases h
 | succ d ih =>
  intro k e hk h
  obtain⟨k,rfl⟩:∃ m,k=m+1:=⟨k-1,by omega⟩
  rw[aA] at h ⊢
  simp only[Bool.and_eq_true,List.all_eq_true] at h ⊢
  exact⟨h.1,fun x hx=>ih (by omega) (h.2 x hx)⟩
theorem RH:∀ (d:Nat) {k:Nat} {x:St},d≤k→bD d x=true→bD k x=true:=by
 intro d
 induction d with
 | zero=>intro k e _ h;cases h
 | succ d ih =>
  intro k e hk h
  obtain⟨k,rfl⟩:∃ m,k=m+1:=⟨k-1,by omega⟩
  rw[bD] at h ⊢
  simp only[Bool.and_eq_true,List.all_eq_true] at h ⊢
  exact⟨⟨⟨h.1.1.1,fun x hx=>RG d (by omega) (h.1.1.2 x hx)⟩,fun x hx=>ih (by omega) (h.1.2 x hx)⟩,fun x hx=>ih (by omega) (h.2 x hx)⟩
theorem uQ {α:Type} {lv:Int} {f g:α→Int×Int}:∀ (l:List α) (s:Int×Int),(∀ x∈l,f x=g x)→jh lv f s l=jh lv g s l:=by
 intro l
 induction l with
 | nil=>intro s _;rfl
 | cons x l ih =>
  intro s h
  unfold jh
  rw[h x (by simp),ih _ (fun y hy=>h y (by simp[hy]))]
theorem U1:∀ (d k:Nat) (lv:Int) (e:Ex),aA d e=true→aA k e=true→iZ d lv e=iZ k lv e:=by
 intro d
 induction d with
 | zero=>intro k lv e h;cases h
 | succ d ih =>
  intro k lv e h hk
  cases k with
  | zero=>cases hk
  | succ k =>
   rw[aA] at h hk
   simp only[Bool.and_eq_true,List.all_eq_true] at h hk
   rw[iZ,iZ,uQ e.args _ (fun x hx=>ih k (lv+1) x (h.2 x hx) (hk.2 x hx))]
theorem U2:∀ (d k:Nat) (lv:Int) (x:St),bD d x=true→bD k x=true→iL d lv x=iL k lv x:=by
 intro d
 induction d with
 | zero=>intro k lv e h;cases h
 | succ d ih =>
  intro k lv e h hk
  cases k with
  | zero=>cases hk
  | succ k =>
   rw[bD] at h hk
   simp only[Bool.and_eq_true,List.all_eq_true] at h hk
   rw[iL,iL,uQ e.exprs _ (fun x hx=>U1 d k (lv+1) x (h.1.1.2 x hx) (hk.1.1.2 x hx)),uQ e.body _ (fun x hx=>ih k (lv+1) x (h.1.2 x hx) (hk.1.2 x hx)),uQ e.els _ (fun x hx=>ih k (lv+1) x (h.2 x hx) (hk.2 x hx))]
theorem U3 {d k:Nat} {p:Pr} (h:cZ d p=true) (hk:∀ x∈p.body,bD k x=true):cZ k p=true:=by
 unfold cZ at h ⊢
 simp only[Bool.and_eq_true,List.all_eq_true] at h ⊢
 have e:I8 k p=I8 d p:=uQ p.body _ (fun x hx=>U2 k d 0 x (hk x hx) (h.2 x hx))
 rw[e]
 exact⟨h.1,hk⟩
theorem U4 {d k:Nat} {p:Pr} (hd:d≤k) (h:cZ d p=true):cZ k p=true:=U3 h (fun x hx=>RH d hd (by
 unfold cZ at h
 simp only[Bool.and_eq_true,List.all_eq_true] at h
 exact h.2 x hx))
theorem Yk {d:Nat} {p:Pr} (h:cZ d p=true):∀ x∈p.body,dN d x≤12:=fun x hx=>by
 unfold cZ at h
 simp only[Bool.and_eq_true] at h
 have h1:=Yj h.1.2
 have:=Ej (List.mem_map.2 ⟨x,hx,rfl⟩:dN d x∈p.body.map (dN d))
 unfold WB at h1
 omega
/- what lies in cells -/
theorem uw {α:Type} {F:Nat→Prop} {w:World} {sz:Nat} {Q:List Value→α→Prop} {P:α→Prop} {A:Option Addr} {n c:Nat} {xs:List α} (h:ai F w sz Q A n c xs) (hQ:∀ r x,Q r x→P x):∀ x∈xs,P x:=fun x hx=>by
 obtain⟨k,hk,rfl⟩:=List.mem_iff_getElem.1 hx
 obtain⟨_,_,r,y,_,_,_,hy,_,hp,_⟩:=ai.get h (by rw[← ai.len h];exact hk)
 rw[List.getElem?_eq_getElem hk] at hy
 cases hy
 exact hQ r _ hp
theorem afd {F:Nat→Prop} {w:World}:∀ (d:Nat) {r:List Value} {e:Ex},aC F d w r e→acB d e:=by
 intro d
 induction d with
 | zero=>intro r e h;exact h.elim
 | succ d ih =>
  intro r e h
  obtain⟨_,h2,_,_,_,A,m,c,_,hl⟩:=h
  exact⟨h2.2,uw hl (fun r x hx=>ih hx)⟩
theorem afe {F:Nat→Prop} {w:World}:∀ (d:Nat) {r:List Value} {x:St},bQ F d w r x→acE d x:=by
 intro d
 induction d with
 | zero=>intro r e h;exact h.elim
 | succ d ih =>
  intro r e h
  obtain⟨_,_,_,_,Ac,nc,cc,Ae,ne,ce,Ab,nb,cb,Al,nl,cl,_,_,k2,k3,k4⟩:=h
  exact⟨uw k2 (fun r x hx=>afd d hx),uw k3 (fun r x hx=>ih hx),uw k4 (fun r x hx=>ih hx)⟩
theorem aff {F:Nat→Prop} {w:World} {d:Nat} {r:List Value} {p:Pr} (h:lH F d w r p):aiM d p:=by
 obtain⟨_,_,_,_,Ap,np,cp,Ab,nb,cb,_,_,hb⟩:=h
 exact uw hb (fun r x hx=>afe d hx)
theorem RI {d:Nat} {p:Pr} (h9:d≤9000) (hr:cZ d p=true) (hnl:nlP d p=false) (hn:aiM d p) (hlen:(oK d p).length≤8000):vU (oK d p)=(p,0,0):=by
 have YD:=U4 h9 hr
 have hdp:=Yk hr
 have hr2:=hr
 unfold cZ at hr2
 simp only[Bool.and_eq_true,List.all_eq_true] at hr2
 obtain⟨⟨hh,hsm⟩,hb⟩:=hr2
 obtain⟨ws,hl,hk⟩:=aeS (afc hh hb hnl hn)
 have hA:At ⟨ws,(oK d p).length⟩ 0 (UX d p++[]):=⟨by rw[List.append_nil];exact hk,Nat.zero_le _⟩
 have hp:=Yd hh hb (fun x hx=>Nat.le_trans (hdp x hx) (by omega)) hA
 have hlw:ws.length=(UX d p).length:=by rw[← hk,List.length_map]
 have e:vU (oK d p)=Ib V7 (cZ 9000) ⟨ws,(oK d p).length⟩ (jT ⟨ws,(oK d p).length⟩ au.start):=Lm (by omega) hl
 rw[e,hp]
 unfold Ib bV
 simp only[Bool.false_or,YD,if_true,Bool.false_eq_true,if_false]
 rw[if_neg (by simp;omega)]
theorem afg {F:Nat→Prop} {d:Nat} {w:World} {r:List Value} {p:Pr} (h:lH F d w r p):∃ Ap np cp Ab nb cb,r=[.string p.name,.string p.src,.string p.part,.int .i64 p.fuel,.slice Ap np cp,.slice Ab nb cb]:=by
 obtain⟨_,_,_,_,Ap,np,cp,Ab,nb,cb,hr,_⟩:=h
 exact⟨Ap,np,cp,Ab,nb,cb,hr⟩
theorem U5 {d:Nat} {p:Pr} (hr:cZ d p=true) (hnl:nlP d p=false) (hl:8000<(oK d p).length):zn d p=([],5):=by
 unfold zn gW
 rw[if_pos hr,hnl,if_neg Bool.false_ne_true,if_pos hl]
theorem Yl {d:Nat} {p:Pr} (hr:cZ d p=true) (hnl:nlP d p=false) (hl:¬ 8000<(oK d p).length):zn d p=(oK d p,0):=by
 unfold zn gW
 rw[if_pos hr,hnl,if_neg Bool.false_ne_true,if_neg hl]
theorem KA {w:World} {g:Nat} {T:TypeId} {v0 v1 v2 v3 v4 v5:Value} (h:af w g T #[v0,v1,v2,v3,v4,v5]):w.cell? ⟨g,0,none⟩=some v0∧w.cell? ⟨g,1,none⟩=some v1∧w.cell? ⟨g,2,none⟩=some v2∧w.cell? ⟨g,3,none⟩=some v3∧w.cell? ⟨g,4,none⟩=some v4∧w.cell? ⟨g,5,none⟩=some v5∧g<w.heap.size:=by
 have h0:=h.cell 0;have h1:=h.cell 1;have h2:=h.cell 2;have h3:=h.cell 3;have h4:=h.cell 4;have h5:=h.cell 5
 simp at h0 h1 h2 h3 h4 h5
 exact⟨h0,h1,h2,h3,h4,h5,h.lt⟩
def RJ (w:World) (x:Ending) (w':World):Prop:=x=.returned (.bool true)∧Below w.heap.size w w'
theorem acK (F G:Nat→Prop):∀ (d:Nat) (e:Ex) (r1 r2:List Value) (w:World),aC F d w r1 e→aC G d w r2 e→Calls Tryz.prog 55 #[.agg r1.toArray,.agg r2.toArray] w (RJ w):=by
 intro d
 induction d with
 | zero=>intro e r1 r2 w h;exact h.elim
 | succ d ih =>
  intro e r1 r2 w h1 h2
  obtain⟨_,_,_,_,_,A,n,c,rfl,hl1⟩:=h1.open_
  obtain⟨_,_,_,_,_,A',n',c',rfl,hl2⟩:=h2.open_
  obtain rfl:n=n':=by rw[← ai.len hl1,← ai.len hl2]
  have hn:=ai.gu hl1
  obtain⟨w1,Hw1⟩:∃ w1,Hid (w1=(w.alloc (.cells #[.int .i64 e.op,.int .i64 e.n,.string e.s,.string e.name,.string e.src,.slice A n c] 55)).alloc (.cells #[.int .i64 e.op,.int .i64 e.n,.string e.s,.string e.name,.string e.src,.slice A' n c'] 55)):=⟨_,rfl⟩
  have hb1:Below w.heap.size w w1:=by rw[Hw1.out];exact((Below.refl _ _).alloc (Nat.le_refl _) _).alloc (by simp) _
  have hkx:af w1 w.heap.size 55 #[.int .i64 e.op,.int .i64 e.n,.string e.s,.string e.name,.string e.src,.slice A n c]:=by rw[Hw1.out];exact(af.laid _ _ _).alloc _
  have hky:af w1 (w.heap.size+1) 55 #[.int .i64 e.op,.int .i64 e.n,.string e.s,.string e.name,.string e.src,.slice A' n c']:=by
   rw[Hw1.out]
   have h:=af.laid (w.alloc (.cells #[.int .i64 e.op,.int .i64 e.n,.string e.s,.string e.name,.string e.src,.slice A n c] 55)) 55 #[.int .i64 e.op,.int .i64 e.n,.string e.s,.string e.name,.string e.src,.slice A' n c']
   simpa using h
  obtain⟨x0,x1,x2,x3,x4,x5,xl⟩:=KA hkx
  obtain⟨y0,y1,y2,y3,y4,y5,yl⟩:=KA hky
  have Hb1:=ae hb1
  have Wx:=ae hkx
  have Hky:=ae hky
  have Hl:=ae (And.intro hl1 hl2)
  have Hih:=ae ih
  clear hb1 hkx hky hl1 hl2 ih h1 h2
  go_enter Tryz.func55,Tryz.ntmps55
  go_upto_region 1 with (fail)
  rw[← Hw1.out]
  go_wp2
  clear x0 x1 x2 x3 x4 x5 xl y0 y1 y2 y3 y4 y5 yl
  go_loopw [5] (fun i wr=>∃ k:Nat,k≤n∧i=.int .i64 k∧Below w1.heap.size w1 wr) (fun i _=>n-(intOf i).toNat)
  case atStart=>exact⟨0,Nat.zero_le _,rfl,Below.refl _ _⟩
  case round =>
   obtain⟨k,hk,rfl,hb⟩:=hrel
   have hkx:=Wx.out.ag (hb.block _ Wx.out.lt)
   have hky:=Hky.out.ag (hb.block _ Hky.out.lt)
   obtain⟨x0,x1,x2,x3,x4,x5,xl⟩:=KA hkx
   obtain⟨y0,y1,y2,y3,y4,y5,yl⟩:=KA hky
   have hbb:=Hb1.out.trans (hb.mono Hb1.out.size)
   by_cases hlt:k<n
   ·have hl1:=aO.below Hl.out.1 hbb
    have hl2:=aO.below Hl.out.2 hbb
    cases d with
    | zero =>
     obtain⟨b,o,r,x,_,_,_,_,_,hp,_⟩:=ai.get hl1 hlt
     exact hp.elim
    | succ d =>
     obtain⟨b,o,x,A2,m2,c2,rfl,hbl,hx,z0,z1,z2,z3,z4,z5,hxx,_⟩:=hl1.get hlt
     obtain⟨b',o',x',A3,m3,c3,rfl,L9,hx',v0,v1,v2,v3,v4,v5,hyy,_⟩:=hl2.get hlt
     obtain rfl:x=x':=Option.some.inj (hx.symm.trans hx')
     have hc:=Hih.out x _ _ wr.drew (aC.below hxx (Below.refl _ _).drew) (aC.below hyy (Below.refl _ _).drew)
     have Hc:=ae hc
     have Hb:=ae hb
     clear hc hl1 hl2 hxx hyy hx hx' hbb hkx hky hb
     go_upto_region 6 with (fail)
     go_still_tail 10,(by kernel_rfl)
     change wpList _ _ _ _ _ wr.drew
     go_wp2_with (fail)
     refine Hc.out.mono ?_
     rintro y w4 ⟨rfl,hb4⟩
     have Hb4:=ae (Hb.out.trans (((Below.refl wr.heap.size wr).drew.trans hb4).mono Hb.out.size))
     clear hb4
     go_wp2
     go_roundw
     case rel=>exact⟨k+1,by omega,by go_num,Hb4.out⟩
     case measure=>simp[intOf];omega
   ·have Hbb:=ae hbb
    clear hkx hky hbb hb
    go_wp2
    go_ret
    exact⟨rfl,Hbb.out⟩
theorem KC {w:World} {g:Nat} {T:TypeId} {v0 v1 v2 v3 v4 v5 v6 v7:Value} (h:af w g T #[v0,v1,v2,v3,v4,v5,v6,v7]):w.cell? ⟨g,0,none⟩=some v0∧w.cell? ⟨g,1,none⟩=some v1∧w.cell? ⟨g,2,none⟩=some v2∧w.cell? ⟨g,3,none⟩=some v3∧w.cell? ⟨g,4,none⟩=some v4∧w.cell? ⟨g,5,none⟩=some v5∧w.cell? ⟨g,6,none⟩=some v6∧w.cell? ⟨g,7,none⟩=some v7∧g<w.heap.size:=by
 have h0:=h.cell 0;have h1:=h.cell 1;have h2:=h.cell 2;have h3:=h.cell 3;have h4:=h.cell 4;have h5:=h.cell 5;have h6:=h.cell 6;have h7:=h.cell 7
 simp at h0 h1 h2 h3 h4 h5 h6 h7
 exact⟨h0,h1,h2,h3,h4,h5,h6,h7,h.lt⟩
def NJ (wr:World) (r1 r2:Array Value) (p q:Value) (wc:World):Prop:=∃ g1 g2,p=.pointer (some ⟨g1,0,none⟩)∧q=.pointer (some ⟨g2,0,none⟩)∧af wc g1 49 r1∧af wc g2 49 r2∧Below wr.heap.size wr wc
theorem Ew (wr:World) (r1 r2:Array Value):af (((wr.alloc (.cells r1 49)).alloc (.cells r2 49)).drew) wr.heap.size 49 r1∧af (((wr.alloc (.cells r1 49)).alloc (.cells r2 49)).drew) (wr.heap.size+1) 49 r2∧Below wr.heap.size wr (((wr.alloc (.cells r1 49)).alloc (.cells r2 49)).drew):=by
 refine⟨(af.laid _ _ _).alloc _,?_,(((Below.refl _ _).alloc (Nat.le_refl _) _).alloc (by simp) _).drew⟩
 have h:af ((wr.alloc (.cells r1 49)).alloc (.cells r2 49)) (wr.heap.size+1) 49 r2:=by
  have h:=af.laid (wr.alloc (.cells r1 49)) 49 r2
  simpa using h
 exact h
theorem LQ (F G:Nat→Prop) (d:Nat) (ih:∀ d',d=d'+1→∀ (A A':Option Addr) (n c c':Nat) (xs:List St) (w:World),aP F d' w A n c xs→aP G d' w A' n c' xs→Calls Tryz.prog 23 #[.slice A n c,.slice A' n c'] w (RJ w))
  (A A':Option Addr) (n c c':Nat) (xs:List St) (w:World) (h1:aP F d w A n c xs) (h2:aP G d w A' n c' xs):Calls Tryz.prog 23 #[.slice A n c,.slice A' n c'] w (RJ w):=by
 have hn:=ai.gu h1
 have Hl:=ae (And.intro h1 h2)
 have Hih:=ae ih
 clear h1 h2 ih
 go_enter Tryz.func23,Tryz.ntmps23
 go_wp2
 go_loopw [5] (fun i wr=>∃ k:Nat,k≤n∧i=.int .i64 k∧Below w.heap.size w wr) (fun i _=>n-(intOf i).toNat)
 case atStart=>exact⟨0,Nat.zero_le _,rfl,Below.refl _ _⟩
 case round =>
  obtain⟨k,hk,rfl,hb⟩:=hrel
  by_cases hlt:k<n
  ·have hl1:=aP.below Hl.out.1 hb
   have hl2:=aP.below Hl.out.2 hb
   cases d with
   | zero =>
    obtain⟨b,o,r,x,_,_,_,_,_,hp,_⟩:=ai.get hl1 hlt
    exact hp.elim
   | succ d =>
    obtain⟨b,o,r,x,rfl,hbl,_,hx,_,hp,hcl⟩:=ai.get hl1 hlt
    obtain⟨b',o',r',x',rfl,L9,_,hx',_,hp',hcl'⟩:=ai.get hl2 hlt
    obtain rfl:x=x':=Option.some.inj (hx.symm.trans hx')
    obtain⟨_,_,_,_,Ac,nc,cc,Ae,ne,ce,Ab,nb,cb,Al,nl,cl,rfl,hc,he,hbo,hel⟩:=hp.open_
    obtain⟨_,_,_,_,Kv,nc',cc',Ae',ne',ce',Ab',nb',cb',Al',nl',cl',rfl,hc',he',U6,aiN⟩:=hp'.open_
    have z0:wr.cell? ⟨b,o+k*8,none⟩=some (.int .i64 x.op):=by simpa using hcl 0 _ rfl
    have z1:=hcl 1 _ rfl
    have z2:=hcl 2 _ rfl
    have z3:=hcl 3 _ rfl
    have z4:=hcl 4 _ rfl
    have z5:=hcl 5 _ rfl
    have z6:=hcl 6 _ rfl
    have z7:=hcl 7 _ rfl
    have v0:wr.cell? ⟨b',o'+k*8,none⟩=some (.int .i64 x.op):=by simpa using hcl' 0 _ rfl
    have v1:=hcl' 1 _ rfl
    have v2:=hcl' 2 _ rfl
    have v3:=hcl' 3 _ rfl
    have v4:=hcl' 4 _ rfl
    have v5:=hcl' 5 _ rfl
    have v6:=hcl' 6 _ rfl
    have v7:=hcl' 7 _ rfl
    obtain rfl:nc=nc':=by rw[← ai.len hc,← ai.len hc']
    obtain rfl:ne=ne':=by rw[← ai.len he,← ai.len he']
    obtain rfl:nb=nb':=by rw[← ai.len hbo,← ai.len U6]
    obtain rfl:nl=nl':=by rw[← ai.len hel,← ai.len aiN]
    have Hn:=ae (And.intro (ai.gu hc) (ai.gu he))
    have Hc:=ae (And.intro hc hc')
    have He:=ae (And.intro he he')
    have Hbo:=ae (And.intro hbo U6)
    have Hel:=ae (And.intro hel aiN)
    have Hb:=ae hb
    clear hc hc' he he' hbo U6 hel aiN hp hp' hcl hcl' hx hx' hl1 hl2 hb
    have ha:NJ wr #[.int .i64 x.op,.string x.name,.string x.src,.int .i64 x.n,.slice Ac nc cc,.slice Ae ne ce,.slice Ab nb cb,.slice Al nl cl] #[.int .i64 x.op,.string x.name,.string x.src,.int .i64 x.n,.slice Kv nc cc',.slice Ae' ne ce',.slice Ab' nb cb',.slice Al' nl cl'] (.pointer (some ⟨wr.heap.size,0,none⟩)) (.pointer (some ⟨wr.heap.size+1,0,none⟩)) (((wr.alloc (.cells #[.int .i64 x.op,.string x.name,.string x.src,.int .i64 x.n,.slice Ac nc cc,.slice Ae ne ce,.slice Ab nb cb,.slice Al nl cl] 49)).alloc (.cells #[.int .i64 x.op,.string x.name,.string x.src,.int .i64 x.n,.slice Kv nc cc',.slice Ae' ne ce',.slice Ab' nb cb',.slice Al' nl cl'] 49)).drew):=⟨_,_,rfl,rfl,Ew _ _ _⟩
    have hb:NJ wr #[.int .i64 x.op,.string x.name,.string x.src,.int .i64 x.n,.slice Ac nc cc,.slice Ae ne ce,.slice Ab nb cb,.slice Al nl cl] #[.int .i64 x.op,.string x.name,.string x.src,.int .i64 x.n,.slice Kv nc cc',.slice Ae' ne ce',.slice Ab' nb cb',.slice Al' nl cl'] (.pointer (some ⟨wr.heap.size+1,0,none⟩)) (.pointer (some ⟨wr.heap.size,0,none⟩)) (((wr.alloc (.cells #[.int .i64 x.op,.string x.name,.string x.src,.int .i64 x.n,.slice Kv nc cc',.slice Ae' ne ce',.slice Ab' nb cb',.slice Al' nl cl'] 49)).alloc (.cells #[.int .i64 x.op,.string x.name,.string x.src,.int .i64 x.n,.slice Ac nc cc,.slice Ae ne ce,.slice Ab nb cb,.slice Al nl cl] 49)).drew):=⟨_,_,rfl,rfl,(Ew _ _ _).2.1,(Ew _ _ _).1,(Ew _ _ _).2.2⟩
    have Ha:=ae ha
    have Hbb:=ae hb
    clear ha hb
    go_upto_region 6 with (fail)
    go_cut [6,7] (fun p q wc=>NJ wr #[.int .i64 x.op,.string x.name,.string x.src,.int .i64 x.n,.slice Ac nc cc,.slice Ae ne ce,.slice Ab nb cb,.slice Al nl cl] #[.int .i64 x.op,.string x.name,.string x.src,.int .i64 x.n,.slice Kv nc cc',.slice Ae' ne ce',.slice Ab' nb cb',.slice Al' nl cl'] p q wc)
    case first =>
     go_region_with (fail)
     all_goals
      go_wp2
      go_meet
      first
       | exact Ha.out
       | exact Hbb.out
    case rest =>
     obtain⟨g1,g2,rfl,rfl,hk1,hk2,hb2⟩:=hcut
     clear z0 z1 z2 z3 z4 z5 z6 z7 v0 v1 v2 v3 v4 v5 v6 v7
     have hih:=Hih.out d rfl
     have aof:=ae hih
     have Hk:=ae (And.intro hk1 hk2)
     have Hb2:=ae hb2
     obtain⟨x0,x1,x2,x3,x4,x5,x6,x7,xl⟩:=KC hk1
     obtain⟨y0,y1,y2,y3,y4,y5,y6,y7,yl⟩:=KC hk2
     have h1:=hih Ab Ab' nb cb cb' x.body wc (aP.below Hbo.out.1 hb2) (aP.below Hbo.out.2 hb2)
     have H1:=ae h1
     clear hih hk1 hk2 hb2 h1 hbl L9
     go_wp2_with (fail)
     refine H1.out.mono ?_
     rintro y w3 ⟨rfl,hb3⟩
     have afh:=Hb2.out.trans (hb3.mono Hb2.out.size)
     have hk1:=Hk.out.1.ag (hb3.block _ Hk.out.1.lt)
     have hk2:=Hk.out.2.ag (hb3.block _ Hk.out.2.lt)
     clear x0 x1 x2 x3 x4 x5 x6 x7 xl y0 y1 y2 y3 y4 y5 y6 y7 yl
     obtain⟨x0,x1,x2,x3,x4,x5,x6,x7,xl⟩:=KC hk1
     obtain⟨y0,y1,y2,y3,y4,y5,y6,y7,yl⟩:=KC hk2
     have h1:=aof.out Al Al' nl cl cl' x.els w3 (aP.below Hel.out.1 afh) (aP.below Hel.out.2 afh)
     have H1:=ae h1
     have qi:=ae (And.intro hk1 (And.intro hk2 afh))
     clear hk1 hk2 afh hb3 h1
     go_wp2_with (fail)
     refine H1.out.mono ?_
     rintro y w4 ⟨rfl,hb4⟩
     have tH:=qi.out.2.2.trans (hb4.mono qi.out.2.2.size)
     have hk1:=qi.out.1.ag (hb4.block _ qi.out.1.lt)
     have hk2:=qi.out.2.1.ag (hb4.block _ qi.out.2.1.lt)
     have tK:=ae (And.intro hk1 (And.intro hk2 tH))
     clear hk1 hk2 tH hb4 x0 x1 x2 x3 x4 x5 x6 x7 xl y0 y1 y2 y3 y4 y5 y6 y7 yl
     go_wp2
     go_loopw [8] (fun i wq=>∃ j:Nat,j≤nc∧i=.int .i64 j∧Below w4.heap.size w4 wq) (fun i _=>nc-(intOf i).toNat)
     case atStart=>exact⟨0,Nat.zero_le _,rfl,Below.refl _ _⟩
     case round =>
      rename World=>wq
      obtain⟨j,hj,rfl,hq⟩:=hrel
      have hk1:=tK.out.1.ag (hq.block _ tK.out.1.lt)
      have hk2:=tK.out.2.1.ag (hq.block _ tK.out.2.1.lt)
      obtain⟨x0,x1,x2,x3,x4,x5,x6,x7,xl⟩:=KC hk1
      obtain⟨y0,y1,y2,y3,y4,y5,y6,y7,yl⟩:=KC hk2
      have hnn:=Hn.out.1
      have hb5:=tK.out.2.2.trans (hq.mono tK.out.2.2.size)
      by_cases hjl:j<nc
      ·obtain⟨b5,o5,r5,u,rfl,aog,_,hu,_,⟨rfl,_⟩,hcu⟩:=ai.get (ai.below Hc.out.1 hb5) hjl
       obtain⟨b6,o6,r6,u',rfl,aoh,_,hu',_,⟨rfl,_⟩,Ym⟩:=ai.get (ai.below Hc.out.2 hb5) hjl
       obtain rfl:u=u':=Option.some.inj (hu.symm.trans hu')
       have s0:wq.cell? ⟨b5,o5+j,none⟩=some (.string u):=by simpa using hcu 0 _ rfl
       have s1:wq.cell? ⟨b6,o6+j,none⟩=some (.string u):=by simpa using Ym 0 _ rfl
       have Hq:=ae ((hq.trans ((Below.refl wq.heap.size wq).drew.mono hq.size)))
       clear hk1 hk2 hb5 hcu Ym hu hu' hq
       go_wp2
       go_region
       all_goals go_wp2
       all_goals
        go_roundw
        case rel=>exact⟨j+1,by omega,by go_num,Hq.out⟩
        case measure=>simp[intOf];omega
      ·have Hk5:=ae (And.intro hk1 (And.intro hk2 hb5))
       clear hk1 hk2 hb5 hq hnn x0 x1 x2 x3 x4 x5 x6 x7 xl y0 y1 y2 y3 y4 y5 y6 y7 yl
       obtain⟨x0,x1,x2,x3,x4,x5,x6,x7,xl⟩:=KC Hk5.out.1
       obtain⟨y0,y1,y2,y3,y4,y5,y6,y7,yl⟩:=KC Hk5.out.2.1
       have hnn:=Hn.out.2
       go_wp2
       clear x0 x1 x2 x3 x4 x5 x6 x7 xl y0 y1 y2 y3 y4 y5 y6 y7 yl
       go_loopw [9] (fun i wp=>∃ j:Nat,j≤ne∧i=.int .i64 j∧Below wq.heap.size wq wp) (fun i _=>ne-(intOf i).toNat)
       case atStart=>exact⟨0,Nat.zero_le _,rfl,Below.refl _ _⟩
       case round =>
        rename World=>wp
        obtain⟨j,hj,rfl,hq⟩:=hrel
        have hk1:=Hk5.out.1.ag (hq.block _ Hk5.out.1.lt)
        have hk2:=Hk5.out.2.1.ag (hq.block _ Hk5.out.2.1.lt)
        obtain⟨x0,x1,x2,x3,x4,x5,x6,x7,xl⟩:=KC hk1
        obtain⟨y0,y1,y2,y3,y4,y5,y6,y7,yl⟩:=KC hk2
        have hb6:=Hk5.out.2.2.trans (hq.mono Hk5.out.2.2.size)
        by_cases hjl:j<ne
        ·have he1:=aO.below He.out.1 hb6
         have he2:=aO.below He.out.2 hb6
         cases d with
         | zero =>
          obtain⟨b7,o7,r7,x7,_,_,_,_,_,hp,_⟩:=ai.get he1 hjl
          exact hp.elim
         | succ d =>
          obtain⟨b7,o7,u,A2,m2,c2,rfl,arh,hu,z0,z1,z2,z3,z4,z5,hxx,_⟩:=he1.get hjl
          obtain⟨b8,o8,u',A3,m3,c3,rfl,ari,hu',v0,v1,v2,v3,v4,v5,hyy,_⟩:=he2.get hjl
          obtain rfl:u=u':=Option.some.inj (hu.symm.trans hu')
          have hce:=acK F G (d+1) u _ _ wp.drew (aC.below hxx (Below.refl _ _).drew) (aC.below hyy (Below.refl _ _).drew)
          have Hce:=ae hce
          have Hq:=ae hq
          clear hce he1 he2 hxx hyy hu hu' hb6 hk1 hk2 hq
          go_upto_region 17 with (fail)
          go_still_tail 10,(by kernel_rfl)
          change wpList _ _ _ _ _ wp.drew
          go_wp2_with (fail)
          refine Hce.out.mono ?_
          rintro y w7 ⟨rfl,hb7⟩
          have Hb7:=ae (Hq.out.trans (((Below.refl wp.heap.size wp).drew.trans hb7).mono Hq.out.size))
          clear hb7
          go_wp2
          go_roundw
          case rel=>exact⟨j+1,by omega,by go_num,Hb7.out⟩
          case measure=>simp[intOf];omega
        ·have X0:=ae (Hb.out.trans (hb6.mono Hb.out.size))
         clear hk1 hk2 hb6 hq
         go_wp2
         go_roundw
         case rel=>exact⟨k+1,by omega,by go_num,X0.out⟩
         case measure=>simp[intOf];omega
  ·have Hb:=ae hb
   clear hb
   go_wp2
   go_ret
   exact⟨rfl,Hb.out⟩
theorem acM (F G:Nat→Prop):∀ (d:Nat) (A A':Option Addr) (n c c':Nat) (xs:List St) (w:World),aP F d w A n c xs→aP G d w A' n c' xs→Calls Tryz.prog 23 #[.slice A n c,.slice A' n c'] w (RJ w):=by
 intro d
 induction d with
 | zero=>exact fun A A' n c c' xs w h1 h2=>LQ F G 0 (fun d' h=>by omega) A A' n c c' xs w h1 h2
 | succ d ih =>
  intro A A' n c c' xs w h1 h2
  refine LQ F G (d+1) (fun d' h=>?_) A A' n c c' xs w h1 h2
  have e:d=d':=Nat.succ.inj h
  subst e
  exact ih
theorem Yn (F G:Nat→Prop) (d:Nat) (p:Pr) (r1 r2:List Value) (w:World) (h1:lH F d w r1 p) (h2:lH G d w r2 p):Calls Tryz.prog 8 #[.agg r1.toArray,.agg r2.toArray] w (RJ w):=by
 obtain⟨_,_,_,_,A,n,c,Ab,nb,cb,rfl,hp,hbo⟩:=h1
 obtain⟨_,_,_,_,A',n',c',Ab',nb',cb',rfl,hp',U6⟩:=h2
 obtain rfl:n=n':=by rw[← ai.len hp,← ai.len hp']
 obtain rfl:nb=nb':=by rw[← ai.len hbo,← ai.len U6]
 have hn:=ai.gu hp
 obtain⟨w1,Hw1⟩:∃ w1,Hid (w1=(w.alloc (.cells #[.string p.name,.string p.src,.string p.part,.int .i64 p.fuel,.slice A n c,.slice Ab nb cb] 30)).alloc (.cells #[.string p.name,.string p.src,.string p.part,.int .i64 p.fuel,.slice A' n c',.slice Ab' nb cb'] 30)):=⟨_,rfl⟩
 have hb1:Below w.heap.size w w1:=by rw[Hw1.out];exact((Below.refl _ _).alloc (Nat.le_refl _) _).alloc (by simp) _
 have hkx:af w1 w.heap.size 30 #[.string p.name,.string p.src,.string p.part,.int .i64 p.fuel,.slice A n c,.slice Ab nb cb]:=by rw[Hw1.out];exact(af.laid _ _ _).alloc _
 have hky:af w1 (w.heap.size+1) 30 #[.string p.name,.string p.src,.string p.part,.int .i64 p.fuel,.slice A' n c',.slice Ab' nb cb']:=by
  rw[Hw1.out]
  have h:=af.laid (w.alloc (.cells #[.string p.name,.string p.src,.string p.part,.int .i64 p.fuel,.slice A n c,.slice Ab nb cb] 30)) 30 #[.string p.name,.string p.src,.string p.part,.int .i64 p.fuel,.slice A' n c',.slice Ab' nb cb']
  simpa using h
 obtain⟨x0,x1,x2,x3,x4,x5,xl⟩:=KA hkx
 obtain⟨y0,y1,y2,y3,y4,y5,yl⟩:=KA hky
 have Hb1:=ae hb1
 have Wx:=ae hkx
 have Hky:=ae hky
 have Hl:=ae (And.intro hp hp')
 have Hbo:=ae (And.intro hbo U6)
 clear hb1 hkx hky hp hp' hbo U6
 go_enter Tryz.func8,Tryz.ntmps8
 go_upto_region 1 with (fail)
 rw[← Hw1.out]
 go_wp2
 clear x0 x1 x2 x3 x4 x5 xl y0 y1 y2 y3 y4 y5 yl
 go_loopw [5] (fun i wr=>∃ k:Nat,k≤n∧i=.int .i64 k∧Below w1.heap.size w1 wr) (fun i _=>n-(intOf i).toNat)
 case atStart=>exact⟨0,Nat.zero_le _,rfl,Below.refl _ _⟩
 case round =>
  obtain⟨k,hk,rfl,hb⟩:=hrel
  have hkx:=Wx.out.ag (hb.block _ Wx.out.lt)
  have hky:=Hky.out.ag (hb.block _ Hky.out.lt)
  obtain⟨x0,x1,x2,x3,x4,x5,xl⟩:=KA hkx
  obtain⟨y0,y1,y2,y3,y4,y5,yl⟩:=KA hky
  have hbb:=Hb1.out.trans (hb.mono Hb1.out.size)
  by_cases hlt:k<n
  ·obtain⟨b5,o5,r5,u,rfl,aog,_,hu,_,⟨rfl,_⟩,hcu⟩:=ai.get (ai.below Hl.out.1 hbb) hlt
   obtain⟨b6,o6,r6,u',rfl,aoh,_,hu',_,⟨rfl,_⟩,Ym⟩:=ai.get (ai.below Hl.out.2 hbb) hlt
   obtain rfl:u=u':=Option.some.inj (hu.symm.trans hu')
   have s0:wr.cell? ⟨b5,o5+k*2,none⟩=some (.string u.name):=by simpa using hcu 0 _ rfl
   have s1:=hcu 1 _ rfl
   have s2:wr.cell? ⟨b6,o6+k*2,none⟩=some (.string u.name):=by simpa using Ym 0 _ rfl
   have s3:=Ym 1 _ rfl
   have Hq:=ae ((hb.trans ((Below.refl wr.heap.size wr).drew.mono hb.size)))
   clear hkx hky hbb hcu Ym hu hu' hb
   go_wp2
   go_region
   all_goals go_wp2
   all_goals
    go_roundw
    case rel=>exact⟨k+1,by omega,by go_num,Hq.out⟩
    case measure=>simp[intOf];omega
  ·have hc:=acM F G d Ab Ab' nb cb cb' p.body wr (aP.below Hbo.out.1 hbb) (aP.below Hbo.out.2 hbb)
   have Hc:=ae hc
   have Hbb:=ae hbb
   clear hkx hky hbb hb hc
   go_wp2_with (fail)
   refine Hc.out.mono ?_
   rintro y w4 ⟨rfl,hb4⟩
   have Hb4:=ae (Hbb.out.trans (hb4.mono Hbb.out.size))
   clear hb4
   go_wp2
   go_ret
   exact⟨rfl,Hb4.out⟩
theorem JV (F:Nat→Prop) (name src part:ByteArray) (fuel:Int) (Ap:Option Addr) (np cp:Nat) (params:List Co) (A A':Option Addr) (n c n' c':Nat) (xs:List Lf) (ys:List Kn) (Ak:Option Addr) (nk ck:Nat) (ks:List Int) (w:World)
  (hp:ai F w 2 rO Ap np cp params) (h1:ai F w 6 (yU F w) A n c xs) (h2:ai F w 8 (yV F w) A' n' c' ys) (hks:ai F w 1 kD Ak nk ck ks) (hF:∀ k,F k→k<w.heap.size) (uU:okS name) (oks:okS src) (okp:okS part) (okf:okI fuel) (hm:dZ w) :
  Calls Tryz.prog 3 #[.agg #[.string name,.string src,.string part,.int .i64 fuel,.slice Ap np cp,.slice A n c,.slice A' n' c',.slice Ak nk ck]] w fun x w'=>x=.returned (.bool true)∧Below w.heap.size w w':=by
 have hb1:Below w.heap.size w (w.alloc (.cells #[.string name,.string src,.string part,.int .i64 fuel,.slice Ap np cp,.slice A n c,.slice A' n' c',.slice Ak nk ck] 27)):=(Below.refl _ _).alloc (Nat.le_refl _) _
 have HOf:=ae (adw F name src part fuel Ap np cp params A A' n c n' c' xs ys Ak nk ck ks (w.alloc (.cells #[.string name,.string src,.string part,.int .i64 fuel,.slice Ap np cp,.slice A n c,.slice A' n' c',.slice Ak nk ck] 27)) (hp.below hb1) (h1.conv (Kept.of_below hb1) (fun _ _ _ h=>h) (fun r x _ hx=>yU.below hx hb1)) (h2.conv (Kept.of_below hb1) (fun _ _ _ h=>h) (fun r x _ hx=>yV.below hx hb1)) (hks.below hb1) (fun k hk=>by have:=hF k hk;simp;omega) uU oks okp okf)
 have Haw:=ae (fun W (hW:Below w.heap.size w W)=>Tz W (hm.below hm.lt hW))
 have Hm:=ae (fun W (hW:Below w.heap.size w W)=>hm.below hm.lt hW)
 have Hb1:=ae hb1
 clear hp h1 h2 hks hb1 uU oks okp okf hF hm
 go_enter Tryz.func3,Tryz.ntmps3
 go_upto_region 2 with (go_at_call 4;refine HOf.out.mono ?_;rintro e w2 ⟨nm,sr,pt,fu,Ap2,np2,cp2,xI,xJ,cb2,m,d,r,ok,rfl,hb2,hP⟩)
 obtain⟨w3,KT⟩:∃ w3,Hid (w3=w2.alloc (.cells #[.string nm,.string sr,.string pt,.int .i64 fu,.slice Ap2 np2 cp2,.slice xI xJ cb2] 30)):=⟨_,rfl⟩
 rw[← KT.out]
 have hb3:Below w2.heap.size w2 w3:=by rw[KT.out];exact(Below.refl _ _).alloc (Nat.le_refl _) _
 have hx3:af w3 w2.heap.size 30 #[.string nm,.string sr,.string pt,.int .i64 fu,.slice Ap2 np2 cp2,.slice xI xJ cb2]:=by rw[KT.out];exact af.laid _ _ _
 have Yo:=ae ((Hb1.out.trans (hb2.mono Hb1.out.size)).trans (hb3.mono (Nat.le_trans Hb1.out.size hb2.size)))
 obtain⟨p0,p1,p2,p3,p4,p5,pl⟩:=Wq hx3
 have hno:(ok=false∨r=false)∨(ok=true∧r=true):=by cases ok<;>cases r<;>simp
 rcases hno with hno|⟨rfl,rfl⟩
 ·clear hP hx3 hb2 hb3
  rcases hno with rfl|rfl
  ·go_wp2_with (go_at_call 5;refine(Haw.out _ Yo.out).mono ?_)
   rintro x w4 ⟨rfl,hb4⟩
   have Hb4:=ae (Yo.out.trans (hb4.mono Yo.out.size))
   clear hb4
   go_wp2
   go_ret
   exact⟨rfl,Hb4.out⟩
  ·cases ok
   all_goals
    go_wp2_with (go_at_call 5;refine(Haw.out _ Yo.out).mono ?_)
    rintro x w4 ⟨rfl,hb4⟩
    have Hb4:=ae (Yo.out.trans (hb4.mono Yo.out.size))
    clear hb4
    go_wp2
    go_ret
    exact⟨rfl,Hb4.out⟩
 ·obtain⟨p,hPr,aoi⟩:=hP rfl
  have afi:=hPr.below hb3
  have hpp:=J9 _ 101 p _ w3 afi (by omega) (by omega) (fun k hk=>Nat.lt_of_lt_of_le hk hb3.size) (Hm.out _ Yo.out)
  have hback:=fun hr hnl hl=>RI (d:=101) (by omega) hr hnl (aff afi) hl
  have HPr:=ae afi
  have Hx:=ae hx3
  clear hPr afi aoi hb2 hb3 hx3
  by_cases hrn:cZ 101 p=true∧nlP 101 p=false
  ·obtain⟨hr,hnl⟩:=hrn
   by_cases hl:8000<(oK 101 p).length
   ·rw[U5 hr hnl hl] at hpp
    have Hpp:=ae hpp
    clear hpp hback hl hnl hr
    go_wp2_with (fail)
    refine Hpp.out.mono ?_
    rintro e w4 ⟨rfl,hb4⟩
    have Hb4:=ae (Yo.out.trans (hb4.mono Yo.out.size))
    clear hb4
    go_wp2_with (fail)
    refine(Haw.out _ Hb4.out).mono ?_
    rintro e w5 ⟨rfl,hb5⟩
    have Hb5:=ae (Hb4.out.trans (hb5.mono Hb4.out.size))
    clear hb5
    go_wp2
    go_ret
    exact⟨rfl,Hb5.out⟩
   ·rw[Yl hr hnl hl] at hpp
    have hx:=hback hr hnl (by omega)
    obtain⟨T,HT⟩:∃ T:ByteArray,Hid (T=⟨(oK 101 p).toArray⟩):=⟨_,rfl⟩
    have hTl:T.data.toList=oK 101 p:=by rw[HT.out]
    have Hq:=ae (fun W=>(show Calls Tryz.prog 7 #[.string T] W (Lr W (p,0,0)) from by
     have:=Ky T W
     rw[hTl,hx] at this
     exact this))
    rw[← HT.out] at hpp
    have Hpp:=ae hpp
    clear hpp hback hl hnl hr hx
    go_wp2_with (fail)
    refine Hpp.out.mono ?_
    rintro e w4 ⟨rfl,hb4⟩
    have hx4:=Hx.out.ag (hb4.block _ Hx.out.lt)
    have Jf:=HPr.out.below hb4
    have Hb4:=ae (Yo.out.trans (hb4.mono Yo.out.size))
    clear hb4
    have Hx4:=ae hx4
    have HP4:=ae Jf
    clear hx4 Jf
    go_wp2_with (fail)
    refine(Hq.out _).mono ?_
    rintro e w5 ⟨⟨aro,rfl,ab5⟩,hb5,_⟩
    obtain⟨Aq,nq,cq,Bq,mq,dq,rfl⟩:=afg ab5
    have jI:=(Below.refl w5.heap.size w5).alloc (Nat.le_refl _) (.cells #[.string p.name,.string p.src,.string p.part,.int .i64 p.fuel,.slice Aq nq cq,.slice Bq mq dq] 30)
    have hk2:af (w5.alloc (.cells #[.string p.name,.string p.src,.string p.part,.int .i64 p.fuel,.slice Aq nq cq,.slice Bq mq dq] 30)) w5.heap.size 30 #[.string p.name,.string p.src,.string p.part,.int .i64 p.fuel,.slice Aq nq cq,.slice Bq mq dq]:=af.laid _ _ _
    have h56:=hb5.trans (jI.mono hb5.size)
    have hk1:=(Hx4.out.ag (hb5.block _ Hx4.out.lt)).alloc (.cells #[.string p.name,.string p.src,.string p.part,.int .i64 p.fuel,.slice Aq nq cq,.slice Bq mq dq] 30)
    have hsm:=Yn _ _ 9000 p _ _ _ (lH.conv (fun _ h=>h) (Kept.refl _ _) (by omega:101≤9000) (HP4.out.below h56)) (ab5.below jI)
    have X0:=ae (Hb4.out.trans (h56.mono Hb4.out.size))
    obtain⟨w6,Hw6⟩:∃ w6,Hid (w6=w5.alloc (.cells #[.string p.name,.string p.src,.string p.part,.int .i64 p.fuel,.slice Aq nq cq,.slice Bq mq dq] 30)):=⟨_,rfl⟩
    rw[← Hw6.out] at hk2 hk1 hsm X0
    have Hsm:=ae hsm
    obtain⟨y0,y1,y2,y3,y4,y5,yl⟩:=KA hk1
    obtain⟨z0,z1,z2,z3,z4,z5,zl⟩:=KA hk2
    clear hb5 jI ab5 h56 hsm hk1 hk2
    go_upto_region 8 with (fail)
    rw[← Hw6.out]
    go_wp2_with (fail)
    refine Hsm.out.mono ?_
    rintro e w7 ⟨rfl,hb7⟩
    have Hb7:=ae (X0.out.trans (hb7.mono X0.out.size))
    clear hb7
    go_wp2_with (fail)
    refine(Haw.out _ Hb7.out).mono ?_
    rintro e w8 ⟨rfl,hb8⟩
    have Hb8:=ae (Hb7.out.trans (hb8.mono Hb7.out.size))
    clear hb8
    go_wp2
    go_ret
    exact⟨rfl,Hb8.out⟩
  ·have hpS:zn 101 p=([],1):=by
    unfold zn gW
    by_cases hr:cZ 101 p=true
    ·rw[if_pos hr,show nlP 101 p=true by simpa using fun h=>hrn ⟨hr,h⟩,if_pos rfl]
    ·rw[if_neg hr]
   rw[hpS] at hpp
   have Hpp:=ae hpp
   clear hpp hback hrn hpS
   go_wp2_with (fail)
   refine Hpp.out.mono ?_
   rintro e w4 ⟨rfl,hb4⟩
   have Hb4:=ae (Yo.out.trans (hb4.mono Yo.out.size))
   clear hb4
   go_wp2_with (fail)
   refine(Haw.out _ Hb4.out).mono ?_
   rintro e w5 ⟨rfl,hb5⟩
   have Hb5:=ae (Hb4.out.trans (hb5.mono Hb4.out.size))
   clear hb5
   go_wp2
   go_ret
   exact⟨rfl,Hb5.out⟩
end Go.Proofs.YtjjfkhbajidmdaaGreatDoor
