/- Parts of this proof, one behind the other: ParE1, ParE2, ParE3. -/
import Derived.Test.YtjjfkhbajidmdaaGreatDoorPb24
set_option maxRecDepth 1000000
set_option maxHeartbeats 40000000
namespace Go.Proofs.YtjjfkhbajidmdaaGreatDoor
open Go.RowKit Go.Afx
theorem Qr (gp gc gw:Nat) (W:aV) (s:au) (one:au→Ex×au) (m:Nat) (l:List (ByteArray×Int)) (A B:Option Addr) (n ca cb:Nat) (w:World) (h:aW gp gc gw W s w) (hf:Fit W m s) (hm:m≤W.l.length+1) (hT:fB gp gc gw W 146 one m) (hU:Up one) (hl:HY gp gc w A ca B cb l) (hn:l.length=n) (hop:∀ p∈l,1≤p.2∧p.2≤100) :
  Calls Tryz.prog 145 #[.pointer (some ⟨gp,0,none⟩),.agg #[.slice A n ca,.slice B n cb],.func (.func 146) #[.pointer (some ⟨gp,0,none⟩)] #[]] w (jv gp gc gw W (ed W l one s).2 (ed W l one s).1 w):=by
 obtain⟨w1,Hw1⟩:∃ w1,Hid (w1=(w.alloc (.cells #[.slice A n ca,.slice B n cb] 192)).alloc (.cells #[.int .i64 0,.int .i64 0,.string ⟨#[]⟩,.string ⟨#[]⟩,.string ⟨#[]⟩,.slice none 0 0] 55)):=⟨_,rfl⟩
 have hb1:Below w.heap.size w w1:=by rw[Hw1.out];exact((Below.refl _ _).alloc (Nat.le_refl _) _).alloc (by simp) _
 have hk4:af w1 w.heap.size 192 #[.slice A n ca,.slice B n cb]:=by rw[Hw1.out];exact(af.laid _ _ _).alloc _
 have hk6:af w1 (w.heap.size+1) 55 #[.int .i64 0,.int .i64 0,.string ⟨#[]⟩,.string ⟨#[]⟩,.string ⟨#[]⟩,.slice none 0 0]:=by rw[Hw1.out];exact jr (by simp)
 have hgs:=h.lt
 have hgw:=h.wl
 have h1:=h.below hb1
 have hl1:=hl.but (But.of_below hb1)
 have Je:=ae hT
 have HU:=ae hU
 have Hop:=ae (fun s' W2 (hW:aW gp gc gw W s' W2) (hB:But (fV gp gc) w1 W2)=>DR gp gc gw W s' l A B n ca cb W2 hW (hl1.but hB) hn)
 have wW:=ae hop
 have tK:=ae hk4
 have MO:=ae hk6
 have Hb1:=ae hb1
 have H1:=ae h1
 have vg:=ae (And.intro hgs.1 (And.intro hgs.2 hgw))
 have Hf:=ae hf
 have Hm:=ae hm
 clear h h1 hl hl1 hT hU hop hk4 hk6 hb1 hgs hgw hf hm
 have hfin:ed W l one s=jq W l one (W.l.length+1) (one s).1 (one s).2:=rfl
 generalize ed W l one s=fin at *
 have bn:=ae hfin
 clear hfin
 go_enter Tryz.func145,Tryz.ntmps145
 go_upto_region 1 with (fail)
 rw[← Hw1.out]
 go_wp2_with (fail)
 refine(Je.out s w1 H1.out Hf.out).mono ?_
 rintro e w2 ⟨row,D,rfl,hx,hP,hB⟩
 obtain⟨A1,m1,c1,rfl⟩:=bP hx
 have hg4:gp<w.heap.size∧gc<w.heap.size:=⟨vg.out.1,vg.out.2.1⟩
 have hg6:gp<w.heap.size+1∧gc<w.heap.size+1:=by omega
 have hz:=hB.size
 have hz1:=MO.out.lt
 have MP:gp<w2.heap.size∧gc<w2.heap.size:=by omega
 have hg8:gp<w2.heap.size∧gc<w2.heap.size∧gw<w2.heap.size∧w1.heap.size≤w2.heap.size:=⟨MP.1,MP.2,by have:=vg.out.2.2;omega,hz⟩
 have H8:=ae hg8
 have VJ:∀ k,w1.heap.size≤k∧k≠w2.heap.size→gp<k∧gc<k:=fun k hk=>by omega
 have Qs:=ae VJ
 have hx:=aC.turn (F':=fun b=>w1.heap.size≤b∧b≠w2.heap.size) (fun k hk hf=>⟨hf,by omega⟩) (Kept.refl _ _) D (Nat.le_refl _) hx
 have H7:=ae MP
 have hb3:But (fV gp gc) w1 (w2.alloc (.cells #[.int .i64 (one s).1.op,.int .i64 (one s).1.n,.string (one s).1.s,.string (one s).1.name,.string (one s).1.src,.slice A1 m1 c1] 55)):=hB.alloc _
 have hal:=(Below.refl w2.heap.size w2).alloc (Nat.le_refl _) (.cells #[.int .i64 (one s).1.op,.int .i64 (one s).1.n,.string (one s).1.s,.string (one s).1.name,.string (one s).1.src,.slice A1 m1 c1] 55)
 have hP3:=hP.below hal
 have hx3:=hx.below hal
 have jk:af (w2.alloc (.cells #[.int .i64 (one s).1.op,.int .i64 (one s).1.n,.string (one s).1.s,.string (one s).1.name,.string (one s).1.src,.slice A1 m1 c1] 55)) w2.heap.size 55 #[.int .i64 (one s).1.op,.int .i64 (one s).1.n,.string (one s).1.s,.string (one s).1.name,.string (one s).1.src,.slice A1 m1 c1]:=af.laid _ _ _
 obtain⟨x0,x1,xl⟩:=cells2 (ah tK.out hB hg4)
 have H3:=ae (And.intro hP3 (And.intro hb3 (And.intro hx3 jk)))
 have rY:Fit W (W.l.length+1) (one s).2:=(Hf.out.up HU.out).more Hm.out
 have DT:=ae rY
 clear hx hP hB hz hz1 MP hg8 VJ hb3 hal hP3 hx3 jk rY hg4 hg6
 go_wp2_with (fail)
 refine(Hop.out _ _ H3.out.1 H3.out.2.1).mono ?_
 rintro e w4 ⟨rfl,Jf,hB4⟩
 have iP:=H3.out.2.1.trans' hB4
 have H4:=ae (And.intro Jf (And.intro iP (And.intro (ah H3.out.2.2.2 hB4 H7.out) (H3.out.2.2.1.kept (fK hB4 Qs.out)))))
 clear Jf hB4 iP x0 x1 xl
 go_wp2
 go_loopw [8] (fun i wr=>∃ (op:Int) (e:Ex) (s':au) (k D:Nat) (A2:Option Addr) (m2 c2:Nat),i=.int .i64 op∧aW gp gc gw W s' wr∧But (fV gp gc) w wr∧af wr w.heap.size 192 #[.slice A n ca,.slice B n cb]∧af wr (w.heap.size+1) 55 zero6 ∧
   af wr w2.heap.size 55 #[.int .i64 e.op,.int .i64 e.n,.string e.s,.string e.name,.string e.src,.slice A2 m2 c2]∧Hid (aC (fun b=>w1.heap.size≤b∧b≠w2.heap.size) D wr [.int .i64 e.op,.int .i64 e.n,.string e.s,.string e.name,.string e.src,.slice A2 m2 c2] e)∧Hid (fin=oN W l one k op e s')∧Hid (Fit W (k+1) s'∧(op≠0→1≤op∧op≤100∧1≤k∧Fit W k s'∧Fit W m s'))∧But (fV gp gc) w1 wr)
  (fun i wr=>Sl W (intOf i) (oP wr gc))
 case atStart =>
  have hg4:gp<w.heap.size∧gc<w.heap.size:=⟨vg.out.1,vg.out.2.1⟩
  exact⟨_,(one s).1,(jH W l (one s).2).2,W.l.length,D,A1,m1,c1,rfl,H4.out.1,(But.of_below Hb1.out).trans' H4.out.2.1,ah tK.out H4.out.2.1 hg4,ah MO.out H4.out.2.1 (by omega),H4.out.2.2.1,ae H4.out.2.2.2,ae (bn.out.trans (ve ..)),ae (oO DT.out (Hf.out.up HU.out) wW.out),H4.out.2.1⟩
 case round =>
  obtain⟨op,e,s',k,D,A2,m2,c2,rfl,hP,hB,hk4,hk6,jk,HX,HF,HS,hB1⟩:=hrel
  obtain⟨x0,x1,xl⟩:=cells2 hk4
  obtain⟨y0,y1,y2,y3,y4,y5,yl⟩:=aH hk6
  obtain⟨z0,z1,z2,z3,z4,z5,zl⟩:=aH jk
  have f6:=hk6.frozen
  have f7:=jk.frozen
  rcases Classical.em (op=0) with h0|h0
  ·subst h0
   have wY:fin=(e,s'):=by rw[HF.out];unfold oN;rw[if_pos rfl]
   have Hf0:=ae wY
   have H:=ae (And.intro hP (And.intro hB1 (And.intro hk6 HX.out)))
   clear hP hB hk4 hk6 jk hB1 wY
   go_wp2
   rw[bJ]
   have hb7:=fP wr (w.heap.size+1) (.int .i64 e.op) (.int .i64 e.n) (.string e.s) (.string e.name) (.string e.src) (.slice A2 m2 c2)
   have jk:=fO (.int .i64 e.op) (.int .i64 e.n) (.string e.s) (.string e.name) (.string e.src) (.slice A2 m2 c2) H.out.2.2.1
   generalize uJ wr (w.heap.size+1) (.int .i64 e.op) (.int .i64 e.n) (.string e.s) (.string e.name) (.string e.src) (.slice A2 m2 c2)=w7 at *
   have hz1:=Hb1.out.size
   have hz2:=MO.out.lt
   refine bodyPost_ret (v:=.agg #[.int .i64 e.op,.int .i64 e.n,.string e.s,.string e.name,.string e.src,.slice A2 m2 c2]) (fA Tryz.results145 rfl jk rfl) rfl ?_
   rw[Hf0.out]
   refine⟨[.int .i64 e.op,.int .i64 e.n,.string e.s,.string e.name,.string e.src,.slice A2 m2 c2],D,rfl,?_,H.out.1.elsewhere hb7 (by have:=vg.out;omega),((But.of_below Hb1.out).trans' H.out.2.1).trans hb7 (fun i hi=>.inr (by omega))⟩
   exact aC.conv (fun k (hk:w1.heap.size≤k∧k≠w2.heap.size)=>by show w.heap.size≤k;omega) (Kept.aN hb7 fun k hk e=>by omega) D (Nat.le_refl _) H.out.2.2.2
  ·have q0:(op !=0)=true:=by simpa using h0
   obtain⟨hf1,hf2⟩:=HS.out
   obtain⟨ho1,ho2,hk1,hfk,hfm⟩:=hf2 h0
   have hat:=iQ hP
   have TK:=ae hat
   have H:=ae (And.intro hP (And.intro hB (And.intro hk4 (And.intro hk6 (And.intro jk hB1)))))
   have Ho:=ae (And.intro ho1 (And.intro ho2 (And.intro hk1 (And.intro hfk hfm))))
   have H0:=ae h0
   clear hP hB hk4 hk6 jk hB1 hf1 hf2 ho1 ho2 hk1 hfk hfm h0 hat
   go_wp2
   have Hd:=ae (And.intro (show aW gp gc gw W s' wr.drew from H.out.1.below (Below.refl _ _).drew) (show af wr.drew w2.heap.size 55 #[.int .i64 e.op,.int .i64 e.n,.string e.s,.string e.name,.string e.src,.slice A2 m2 c2] from H.out.2.2.2.2.1))
   have HX2:=ae (show aC (fun b=>w1.heap.size≤b∧b≠w2.heap.size) D wr.drew [.int .i64 e.op,.int .i64 e.n,.string e.s,.string e.name,.string e.src,.slice A2 m2 c2] e from HX.out.below (Below.refl _ _).drew)
   have VK:w1.heap.size≤wr.drew.heap.size∧w2.heap.size<wr.drew.heap.size:=⟨H.out.2.2.2.2.2.size,H.out.2.2.2.2.1.lt⟩
   have VL:=ae VK
   have MQ:=ae (fun (W2:World) (D2:Nat) (b:Ex) (rb:List Value) (hB2:But (fV gp gc) wr.drew W2) (hb:aC (Fr wr.drew) D2 W2 rb b)=>wX (fun b=>w1.heap.size≤b∧b≠w2.heap.size) (max D D2) op e b [.int .i64 e.op,.int .i64 e.n,.string e.s,.string e.name,.string e.src,.slice A2 m2 c2] rb W2 (by have:=Ho.out.1;omega) Ho.out.2.1
    (aC.conv (fun _ h=>h) (fK hB2 Qs.out) D (Nat.le_max_left _ _) HX2.out) (aC.conv (fun k (hk:wr.drew.heap.size≤k)=>by have:=VL.out;constructor<;>omega) (Kept.refl _ _) D2 (Nat.le_max_right _ _) hb) (fun k hk=>by have:=VL.out;have:=hB2.size;constructor<;>omega))
   clear VK
   go_region_with (first
    | (go_at_call 146;refine(Je.out s' _ Hd.out.1 Ho.out.2.2.2.2).mono ?_;rintro e5 w5 ⟨Ub,D5,rfl,hx5,pz,iP⟩;obtain⟨A5,m5,c5,rfl⟩:=bP hx5;obtain⟨z0,z1,z2,z3,z4,z5,zl⟩:=aH (ah Hd.out.2 iP H7.out))
    | (go_at_call 166;refine(MQ.out _ _ _ _ iP hx5).mono ?_;rintro e6 w6 ⟨ahv,rfl,hx6,hb6⟩;obtain⟨A6,m6,c6,rfl⟩:=bP hx6;have oQ:=ah Hd.out.2 iP H7.out;have vk:=oQ.ag (hb6.block _ oQ.lt);obtain⟨v0,v1,v2,v3,v4,v5,vl⟩:=aH vk;have f76:=vk.frozen;have H6:=ae (And.intro (pz.below hb6) (And.intro (iP.trans' (But.of_below hb6)) (And.intro vk hx6)))))
   all_goals
    rw[bJ]
    have hb7:=fP w6 w2.heap.size (.int .i64 (cO op e (one s').1).op) (.int .i64 (cO op e (one s').1).n) (.string (cO op e (one s').1).s) (.string (cO op e (one s').1).name) (.string (cO op e (one s').1).src) (.slice A6 m6 c6)
    have jk:=fO (.int .i64 (cO op e (one s').1).op) (.int .i64 (cO op e (one s').1).n) (.string (cO op e (one s').1).s) (.string (cO op e (one s').1).name) (.string (cO op e (one s').1).src) (.slice A6 m6 c6) H6.out.2.2.1
    generalize uJ w6 w2.heap.size (.int .i64 (cO op e (one s').1).op) (.int .i64 (cO op e (one s').1).n) (.string (cO op e (one s').1).s) (.string (cO op e (one s').1).name) (.string (cO op e (one s').1).src) (.slice A6 m6 c6)=w7 at *
    have hpu:=ae (And.intro (H6.out.1.elsewhere hb7 (by have:=H8.out;omega)) (And.intro (((H.out.2.2.2.2.2.drew).trans' H6.out.2.1).trans hb7 (fun i hi=>.inr (by have:=H8.out;omega))) (And.intro (H6.out.2.2.2.kept (Kept.aN hb7 fun k hk e=>hk.2 e)) jk)))
    clear hb7 jk z0 z1 z2 z3 z4 z5 zl v0 v1 v2 v3 v4 v5 vl x0 x1 xl y0 y1 y2 y3 y4 y5 yl f6 f7 f76 vk oQ hb6 pz iP hx5 hx6
    obtain⟨x0,x1,xl⟩:=cells2 (ah tK.out hpu.out.2.1 (by have:=vg.out;omega))
    go_wp2_with (fail)
    refine(Hop.out _ _ hpu.out.1 hpu.out.2.1).mono ?_
    rintro e8 w8 ⟨rfl,Uc,wu⟩
    have rM:=hpu.out.2.1.trans' wu
    have H9:=ae (And.intro Uc (And.intro rM (And.intro (ah hpu.out.2.2.2 wu H7.out) (hpu.out.2.2.1.kept (fK wu Qs.out)))))
    have hk1:=Ho.out.2.2.1
    obtain⟨k1,rfl⟩:∃ k1,k=k1+1:=⟨k-1,by omega⟩
    have hF9:fin=oN W l one k1 (jH W l (one s').2).1 (cO op e (one s').1) (jH W l (one s').2).2:=by
     rw[HF.out]
     unfold oN
     rw[if_neg H0.out]
     rfl
    have HF9:=ae hF9
    have hs9:=oO (l:=l) (Fit.up (one:=one) Ho.out.2.2.2.1 HU.out) (Fit.up (one:=one) Ho.out.2.2.2.2 HU.out) wW.out
    have HS9:=ae hs9
    have hm9:Sl W (jH W l (one s').2).1 (oP w8 gc)<Sl W op (oP wr gc):=by
     rw[iQ H9.out.1,TK.out]
     have h1:=(HU.out s').1
     have h2:=xQ (W:=W) (l:=l) (s:=(one s').2)
     have h3:=H9.out.1.le
     unfold Sl
     rw[if_neg H0.out]
     split
     ·rename_i h0
      rw[if_pos h0] at h2
      omega
     ·rename_i h0
      rw[if_neg h0] at h2
      omega
    have HM9:=ae hm9
    clear Uc wu rM hk1 hF9 hs9 hm9
    go_wp2
    go_roundw
    case rel=>exact⟨_,_,_,_,_,A6,m6,c6,rfl,H9.out.1,(But.of_below Hb1.out).trans' H9.out.2.1,ah tK.out H9.out.2.1 (by have:=vg.out;omega),ah MO.out H9.out.2.1 (by have:=vg.out;omega),H9.out.2.2.1,ae H9.out.2.2.2,HF9,HS9,H9.out.2.1⟩
    case measure=>exact HM9.out
theorem Ud (gp gc gw:Nat) (W:aV) (s:au) (one:au→Ex×au) (m:Nat) (l:List (ByteArray×Int)) (A B:Option Addr) (n ca cb:Nat) (w:World) (h:aW gp gc gw W s w) (hf:Fit W m s) (hm:m≤W.l.length+1) (hT:fB gp gc gw W 167 one m) (hU:Up one) (hl:HY gp gc w A ca B cb l) (hn:l.length=n) (hop:∀ p∈l,1≤p.2∧p.2≤100) :
  Calls Tryz.prog 145 #[.pointer (some ⟨gp,0,none⟩),.agg #[.slice A n ca,.slice B n cb],.func (.func 167) #[.pointer (some ⟨gp,0,none⟩)] #[]] w (jv gp gc gw W (ed W l one s).2 (ed W l one s).1 w):=by
 obtain⟨w1,Hw1⟩:∃ w1,Hid (w1=(w.alloc (.cells #[.slice A n ca,.slice B n cb] 192)).alloc (.cells #[.int .i64 0,.int .i64 0,.string ⟨#[]⟩,.string ⟨#[]⟩,.string ⟨#[]⟩,.slice none 0 0] 55)):=⟨_,rfl⟩
 have hb1:Below w.heap.size w w1:=by rw[Hw1.out];exact((Below.refl _ _).alloc (Nat.le_refl _) _).alloc (by simp) _
 have hk4:af w1 w.heap.size 192 #[.slice A n ca,.slice B n cb]:=by rw[Hw1.out];exact(af.laid _ _ _).alloc _
 have hk6:af w1 (w.heap.size+1) 55 #[.int .i64 0,.int .i64 0,.string ⟨#[]⟩,.string ⟨#[]⟩,.string ⟨#[]⟩,.slice none 0 0]:=by rw[Hw1.out];exact jr (by simp)
 have hgs:=h.lt
 have hgw:=h.wl
 have h1:=h.below hb1
 have hl1:=hl.but (But.of_below hb1)
 have Je:=ae hT
 have HU:=ae hU
 have Hop:=ae (fun s' W2 (hW:aW gp gc gw W s' W2) (hB:But (fV gp gc) w1 W2)=>DR gp gc gw W s' l A B n ca cb W2 hW (hl1.but hB) hn)
 have wW:=ae hop
 have tK:=ae hk4
 have MO:=ae hk6
 have Hb1:=ae hb1
 have H1:=ae h1
 have vg:=ae (And.intro hgs.1 (And.intro hgs.2 hgw))
 have Hf:=ae hf
 have Hm:=ae hm
 clear h h1 hl hl1 hT hU hop hk4 hk6 hb1 hgs hgw hf hm
 have hfin:ed W l one s=jq W l one (W.l.length+1) (one s).1 (one s).2:=rfl
 generalize ed W l one s=fin at *
 have bn:=ae hfin
 clear hfin
 go_enter Tryz.func145,Tryz.ntmps145
 go_upto_region 1 with (fail)
 rw[← Hw1.out]
 go_wp2_with (fail)
 refine(Je.out s w1 H1.out Hf.out).mono ?_
 rintro e w2 ⟨row,D,rfl,hx,hP,hB⟩
 obtain⟨A1,m1,c1,rfl⟩:=bP hx
 have hg4:gp<w.heap.size∧gc<w.heap.size:=⟨vg.out.1,vg.out.2.1⟩
 have hg6:gp<w.heap.size+1∧gc<w.heap.size+1:=by omega
 have hz:=hB.size
 have hz1:=MO.out.lt
 have MP:gp<w2.heap.size∧gc<w2.heap.size:=by omega
 have hg8:gp<w2.heap.size∧gc<w2.heap.size∧gw<w2.heap.size∧w1.heap.size≤w2.heap.size:=⟨MP.1,MP.2,by have:=vg.out.2.2;omega,hz⟩
 have H8:=ae hg8
 have VJ:∀ k,w1.heap.size≤k∧k≠w2.heap.size→gp<k∧gc<k:=fun k hk=>by omega
 have Qs:=ae VJ
 have hx:=aC.turn (F':=fun b=>w1.heap.size≤b∧b≠w2.heap.size) (fun k hk hf=>⟨hf,by omega⟩) (Kept.refl _ _) D (Nat.le_refl _) hx
 have H7:=ae MP
 have hb3:But (fV gp gc) w1 (w2.alloc (.cells #[.int .i64 (one s).1.op,.int .i64 (one s).1.n,.string (one s).1.s,.string (one s).1.name,.string (one s).1.src,.slice A1 m1 c1] 55)):=hB.alloc _
 have hal:=(Below.refl w2.heap.size w2).alloc (Nat.le_refl _) (.cells #[.int .i64 (one s).1.op,.int .i64 (one s).1.n,.string (one s).1.s,.string (one s).1.name,.string (one s).1.src,.slice A1 m1 c1] 55)
 have hP3:=hP.below hal
 have hx3:=hx.below hal
 have jk:af (w2.alloc (.cells #[.int .i64 (one s).1.op,.int .i64 (one s).1.n,.string (one s).1.s,.string (one s).1.name,.string (one s).1.src,.slice A1 m1 c1] 55)) w2.heap.size 55 #[.int .i64 (one s).1.op,.int .i64 (one s).1.n,.string (one s).1.s,.string (one s).1.name,.string (one s).1.src,.slice A1 m1 c1]:=af.laid _ _ _
 obtain⟨x0,x1,xl⟩:=cells2 (ah tK.out hB hg4)
 have H3:=ae (And.intro hP3 (And.intro hb3 (And.intro hx3 jk)))
 have rY:Fit W (W.l.length+1) (one s).2:=(Hf.out.up HU.out).more Hm.out
 have DT:=ae rY
 clear hx hP hB hz hz1 MP hg8 VJ hb3 hal hP3 hx3 jk rY hg4 hg6
 go_wp2_with (fail)
 refine(Hop.out _ _ H3.out.1 H3.out.2.1).mono ?_
 rintro e w4 ⟨rfl,Jf,hB4⟩
 have iP:=H3.out.2.1.trans' hB4
 have H4:=ae (And.intro Jf (And.intro iP (And.intro (ah H3.out.2.2.2 hB4 H7.out) (H3.out.2.2.1.kept (fK hB4 Qs.out)))))
 clear Jf hB4 iP x0 x1 xl
 go_wp2
 go_loopw [8] (fun i wr=>∃ (op:Int) (e:Ex) (s':au) (k D:Nat) (A2:Option Addr) (m2 c2:Nat),i=.int .i64 op∧aW gp gc gw W s' wr∧But (fV gp gc) w wr∧af wr w.heap.size 192 #[.slice A n ca,.slice B n cb]∧af wr (w.heap.size+1) 55 zero6 ∧
   af wr w2.heap.size 55 #[.int .i64 e.op,.int .i64 e.n,.string e.s,.string e.name,.string e.src,.slice A2 m2 c2]∧Hid (aC (fun b=>w1.heap.size≤b∧b≠w2.heap.size) D wr [.int .i64 e.op,.int .i64 e.n,.string e.s,.string e.name,.string e.src,.slice A2 m2 c2] e)∧Hid (fin=oN W l one k op e s')∧Hid (Fit W (k+1) s'∧(op≠0→1≤op∧op≤100∧1≤k∧Fit W k s'∧Fit W m s'))∧But (fV gp gc) w1 wr)
  (fun i wr=>Sl W (intOf i) (oP wr gc))
 case atStart =>
  have hg4:gp<w.heap.size∧gc<w.heap.size:=⟨vg.out.1,vg.out.2.1⟩
  exact⟨_,(one s).1,(jH W l (one s).2).2,W.l.length,D,A1,m1,c1,rfl,H4.out.1,(But.of_below Hb1.out).trans' H4.out.2.1,ah tK.out H4.out.2.1 hg4,ah MO.out H4.out.2.1 (by omega),H4.out.2.2.1,ae H4.out.2.2.2,ae (bn.out.trans (ve ..)),ae (oO DT.out (Hf.out.up HU.out) wW.out),H4.out.2.1⟩
 case round =>
  obtain⟨op,e,s',k,D,A2,m2,c2,rfl,hP,hB,hk4,hk6,jk,HX,HF,HS,hB1⟩:=hrel
  obtain⟨x0,x1,xl⟩:=cells2 hk4
  obtain⟨y0,y1,y2,y3,y4,y5,yl⟩:=aH hk6
  obtain⟨z0,z1,z2,z3,z4,z5,zl⟩:=aH jk
  have f6:=hk6.frozen
  have f7:=jk.frozen
  rcases Classical.em (op=0) with h0|h0
  ·subst h0
   have wY:fin=(e,s'):=by rw[HF.out];unfold oN;rw[if_pos rfl]
   have Hf0:=ae wY
   have H:=ae (And.intro hP (And.intro hB1 (And.intro hk6 HX.out)))
   clear hP hB hk4 hk6 jk hB1 wY
   go_wp2
   rw[bJ]
   have hb7:=fP wr (w.heap.size+1) (.int .i64 e.op) (.int .i64 e.n) (.string e.s) (.string e.name) (.string e.src) (.slice A2 m2 c2)
   have jk:=fO (.int .i64 e.op) (.int .i64 e.n) (.string e.s) (.string e.name) (.string e.src) (.slice A2 m2 c2) H.out.2.2.1
   generalize uJ wr (w.heap.size+1) (.int .i64 e.op) (.int .i64 e.n) (.string e.s) (.string e.name) (.string e.src) (.slice A2 m2 c2)=w7 at *
   have hz1:=Hb1.out.size
   have hz2:=MO.out.lt
   refine bodyPost_ret (v:=.agg #[.int .i64 e.op,.int .i64 e.n,.string e.s,.string e.name,.string e.src,.slice A2 m2 c2]) (fA Tryz.results145 rfl jk rfl) rfl ?_
   rw[Hf0.out]
   refine⟨[.int .i64 e.op,.int .i64 e.n,.string e.s,.string e.name,.string e.src,.slice A2 m2 c2],D,rfl,?_,H.out.1.elsewhere hb7 (by have:=vg.out;omega),((But.of_below Hb1.out).trans' H.out.2.1).trans hb7 (fun i hi=>.inr (by omega))⟩
   exact aC.conv (fun k (hk:w1.heap.size≤k∧k≠w2.heap.size)=>by show w.heap.size≤k;omega) (Kept.aN hb7 fun k hk e=>by omega) D (Nat.le_refl _) H.out.2.2.2
  ·have q0:(op !=0)=true:=by simpa using h0
   obtain⟨hf1,hf2⟩:=HS.out
   obtain⟨ho1,ho2,hk1,hfk,hfm⟩:=hf2 h0
   have hat:=iQ hP
   have TK:=ae hat
   have H:=ae (And.intro hP (And.intro hB (And.intro hk4 (And.intro hk6 (And.intro jk hB1)))))
   have Ho:=ae (And.intro ho1 (And.intro ho2 (And.intro hk1 (And.intro hfk hfm))))
   have H0:=ae h0
   clear hP hB hk4 hk6 jk hB1 hf1 hf2 ho1 ho2 hk1 hfk hfm h0 hat
   go_wp2
   have Hd:=ae (And.intro (show aW gp gc gw W s' wr.drew from H.out.1.below (Below.refl _ _).drew) (show af wr.drew w2.heap.size 55 #[.int .i64 e.op,.int .i64 e.n,.string e.s,.string e.name,.string e.src,.slice A2 m2 c2] from H.out.2.2.2.2.1))
   have HX2:=ae (show aC (fun b=>w1.heap.size≤b∧b≠w2.heap.size) D wr.drew [.int .i64 e.op,.int .i64 e.n,.string e.s,.string e.name,.string e.src,.slice A2 m2 c2] e from HX.out.below (Below.refl _ _).drew)
   have VK:w1.heap.size≤wr.drew.heap.size∧w2.heap.size<wr.drew.heap.size:=⟨H.out.2.2.2.2.2.size,H.out.2.2.2.2.1.lt⟩
   have VL:=ae VK
   have MQ:=ae (fun (W2:World) (D2:Nat) (b:Ex) (rb:List Value) (hB2:But (fV gp gc) wr.drew W2) (hb:aC (Fr wr.drew) D2 W2 rb b)=>wX (fun b=>w1.heap.size≤b∧b≠w2.heap.size) (max D D2) op e b [.int .i64 e.op,.int .i64 e.n,.string e.s,.string e.name,.string e.src,.slice A2 m2 c2] rb W2 (by have:=Ho.out.1;omega) Ho.out.2.1
    (aC.conv (fun _ h=>h) (fK hB2 Qs.out) D (Nat.le_max_left _ _) HX2.out) (aC.conv (fun k (hk:wr.drew.heap.size≤k)=>by have:=VL.out;constructor<;>omega) (Kept.refl _ _) D2 (Nat.le_max_right _ _) hb) (fun k hk=>by have:=VL.out;have:=hB2.size;constructor<;>omega))
   clear VK
   go_region_with (first
    | (go_at_call 167;refine(Je.out s' _ Hd.out.1 Ho.out.2.2.2.2).mono ?_;rintro e5 w5 ⟨Ub,D5,rfl,hx5,pz,iP⟩;obtain⟨A5,m5,c5,rfl⟩:=bP hx5;obtain⟨z0,z1,z2,z3,z4,z5,zl⟩:=aH (ah Hd.out.2 iP H7.out))
    | (go_at_call 166;refine(MQ.out _ _ _ _ iP hx5).mono ?_;rintro e6 w6 ⟨ahv,rfl,hx6,hb6⟩;obtain⟨A6,m6,c6,rfl⟩:=bP hx6;have oQ:=ah Hd.out.2 iP H7.out;have vk:=oQ.ag (hb6.block _ oQ.lt);obtain⟨v0,v1,v2,v3,v4,v5,vl⟩:=aH vk;have f76:=vk.frozen;have H6:=ae (And.intro (pz.below hb6) (And.intro (iP.trans' (But.of_below hb6)) (And.intro vk hx6)))))
   all_goals
    rw[bJ]
    have hb7:=fP w6 w2.heap.size (.int .i64 (cO op e (one s').1).op) (.int .i64 (cO op e (one s').1).n) (.string (cO op e (one s').1).s) (.string (cO op e (one s').1).name) (.string (cO op e (one s').1).src) (.slice A6 m6 c6)
    have jk:=fO (.int .i64 (cO op e (one s').1).op) (.int .i64 (cO op e (one s').1).n) (.string (cO op e (one s').1).s) (.string (cO op e (one s').1).name) (.string (cO op e (one s').1).src) (.slice A6 m6 c6) H6.out.2.2.1
    generalize uJ w6 w2.heap.size (.int .i64 (cO op e (one s').1).op) (.int .i64 (cO op e (one s').1).n) (.string (cO op e (one s').1).s) (.string (cO op e (one s').1).name) (.string (cO op e (one s').1).src) (.slice A6 m6 c6)=w7 at *
    have hpu:=ae (And.intro (H6.out.1.elsewhere hb7 (by have:=H8.out;omega)) (And.intro (((H.out.2.2.2.2.2.drew).trans' H6.out.2.1).trans hb7 (fun i hi=>.inr (by have:=H8.out;omega))) (And.intro (H6.out.2.2.2.kept (Kept.aN hb7 fun k hk e=>hk.2 e)) jk)))
    clear hb7 jk z0 z1 z2 z3 z4 z5 zl v0 v1 v2 v3 v4 v5 vl x0 x1 xl y0 y1 y2 y3 y4 y5 yl f6 f7 f76 vk oQ hb6 pz iP hx5 hx6
    obtain⟨x0,x1,xl⟩:=cells2 (ah tK.out hpu.out.2.1 (by have:=vg.out;omega))
    go_wp2_with (fail)
    refine(Hop.out _ _ hpu.out.1 hpu.out.2.1).mono ?_
    rintro e8 w8 ⟨rfl,Uc,wu⟩
    have rM:=hpu.out.2.1.trans' wu
    have H9:=ae (And.intro Uc (And.intro rM (And.intro (ah hpu.out.2.2.2 wu H7.out) (hpu.out.2.2.1.kept (fK wu Qs.out)))))
    have hk1:=Ho.out.2.2.1
    obtain⟨k1,rfl⟩:∃ k1,k=k1+1:=⟨k-1,by omega⟩
    have hF9:fin=oN W l one k1 (jH W l (one s').2).1 (cO op e (one s').1) (jH W l (one s').2).2:=by
     rw[HF.out]
     unfold oN
     rw[if_neg H0.out]
     rfl
    have HF9:=ae hF9
    have hs9:=oO (l:=l) (Fit.up (one:=one) Ho.out.2.2.2.1 HU.out) (Fit.up (one:=one) Ho.out.2.2.2.2 HU.out) wW.out
    have HS9:=ae hs9
    have hm9:Sl W (jH W l (one s').2).1 (oP w8 gc)<Sl W op (oP wr gc):=by
     rw[iQ H9.out.1,TK.out]
     have h1:=(HU.out s').1
     have h2:=xQ (W:=W) (l:=l) (s:=(one s').2)
     have h3:=H9.out.1.le
     unfold Sl
     rw[if_neg H0.out]
     split
     ·rename_i h0
      rw[if_pos h0] at h2
      omega
     ·rename_i h0
      rw[if_neg h0] at h2
      omega
    have HM9:=ae hm9
    clear Uc wu rM hk1 hF9 hs9 hm9
    go_wp2
    go_roundw
    case rel=>exact⟨_,_,_,_,_,A6,m6,c6,rfl,H9.out.1,(But.of_below Hb1.out).trans' H9.out.2.1,ah tK.out H9.out.2.1 (by have:=vg.out;omega),ah MO.out H9.out.2.1 (by have:=vg.out;omega),H9.out.2.2.1,ae H9.out.2.2.2,HF9,HS9,H9.out.2.1⟩
    case measure=>exact HM9.out
theorem Jg (gp gc gw:Nat) (W:aV) (s:au) (one:au→Ex×au) (m:Nat) (l:List (ByteArray×Int)) (A B:Option Addr) (n ca cb:Nat) (w:World) (h:aW gp gc gw W s w) (hf:Fit W m s) (hm:m≤W.l.length+1) (hT:fB gp gc gw W 193 one m) (hU:Up one) (hl:HY gp gc w A ca B cb l) (hn:l.length=n) (hop:∀ p∈l,1≤p.2∧p.2≤100) :
  Calls Tryz.prog 145 #[.pointer (some ⟨gp,0,none⟩),.agg #[.slice A n ca,.slice B n cb],.func (.func 193) #[.pointer (some ⟨gp,0,none⟩)] #[]] w (jv gp gc gw W (ed W l one s).2 (ed W l one s).1 w):=by
 obtain⟨w1,Hw1⟩:∃ w1,Hid (w1=(w.alloc (.cells #[.slice A n ca,.slice B n cb] 192)).alloc (.cells #[.int .i64 0,.int .i64 0,.string ⟨#[]⟩,.string ⟨#[]⟩,.string ⟨#[]⟩,.slice none 0 0] 55)):=⟨_,rfl⟩
 have hb1:Below w.heap.size w w1:=by rw[Hw1.out];exact((Below.refl _ _).alloc (Nat.le_refl _) _).alloc (by simp) _
 have hk4:af w1 w.heap.size 192 #[.slice A n ca,.slice B n cb]:=by rw[Hw1.out];exact(af.laid _ _ _).alloc _
 have hk6:af w1 (w.heap.size+1) 55 #[.int .i64 0,.int .i64 0,.string ⟨#[]⟩,.string ⟨#[]⟩,.string ⟨#[]⟩,.slice none 0 0]:=by rw[Hw1.out];exact jr (by simp)
 have hgs:=h.lt
 have hgw:=h.wl
 have h1:=h.below hb1
 have hl1:=hl.but (But.of_below hb1)
 have Je:=ae hT
 have HU:=ae hU
 have Hop:=ae (fun s' W2 (hW:aW gp gc gw W s' W2) (hB:But (fV gp gc) w1 W2)=>DR gp gc gw W s' l A B n ca cb W2 hW (hl1.but hB) hn)
 have wW:=ae hop
 have tK:=ae hk4
 have MO:=ae hk6
 have Hb1:=ae hb1
 have H1:=ae h1
 have vg:=ae (And.intro hgs.1 (And.intro hgs.2 hgw))
 have Hf:=ae hf
 have Hm:=ae hm
 clear h h1 hl hl1 hT hU hop hk4 hk6 hb1 hgs hgw hf hm
 have hfin:ed W l one s=jq W l one (W.l.length+1) (one s).1 (one s).2:=rfl
 generalize ed W l one s=fin at *
 have bn:=ae hfin
 clear hfin
 go_enter Tryz.func145,Tryz.ntmps145
 go_upto_region 1 with (fail)
 rw[← Hw1.out]
 go_wp2_with (fail)
 refine(Je.out s w1 H1.out Hf.out).mono ?_
 rintro e w2 ⟨row,D,rfl,hx,hP,hB⟩
 obtain⟨A1,m1,c1,rfl⟩:=bP hx
 have hg4:gp<w.heap.size∧gc<w.heap.size:=⟨vg.out.1,vg.out.2.1⟩
 have hg6:gp<w.heap.size+1∧gc<w.heap.size+1:=by omega
 have hz:=hB.size
 have hz1:=MO.out.lt
 have MP:gp<w2.heap.size∧gc<w2.heap.size:=by omega
 have hg8:gp<w2.heap.size∧gc<w2.heap.size∧gw<w2.heap.size∧w1.heap.size≤w2.heap.size:=⟨MP.1,MP.2,by have:=vg.out.2.2;omega,hz⟩
 have H8:=ae hg8
 have VJ:∀ k,w1.heap.size≤k∧k≠w2.heap.size→gp<k∧gc<k:=fun k hk=>by omega
 have Qs:=ae VJ
 have hx:=aC.turn (F':=fun b=>w1.heap.size≤b∧b≠w2.heap.size) (fun k hk hf=>⟨hf,by omega⟩) (Kept.refl _ _) D (Nat.le_refl _) hx
 have H7:=ae MP
 have hb3:But (fV gp gc) w1 (w2.alloc (.cells #[.int .i64 (one s).1.op,.int .i64 (one s).1.n,.string (one s).1.s,.string (one s).1.name,.string (one s).1.src,.slice A1 m1 c1] 55)):=hB.alloc _
 have hal:=(Below.refl w2.heap.size w2).alloc (Nat.le_refl _) (.cells #[.int .i64 (one s).1.op,.int .i64 (one s).1.n,.string (one s).1.s,.string (one s).1.name,.string (one s).1.src,.slice A1 m1 c1] 55)
 have hP3:=hP.below hal
 have hx3:=hx.below hal
 have jk:af (w2.alloc (.cells #[.int .i64 (one s).1.op,.int .i64 (one s).1.n,.string (one s).1.s,.string (one s).1.name,.string (one s).1.src,.slice A1 m1 c1] 55)) w2.heap.size 55 #[.int .i64 (one s).1.op,.int .i64 (one s).1.n,.string (one s).1.s,.string (one s).1.name,.string (one s).1.src,.slice A1 m1 c1]:=af.laid _ _ _
 obtain⟨x0,x1,xl⟩:=cells2 (ah tK.out hB hg4)
 have H3:=ae (And.intro hP3 (And.intro hb3 (And.intro hx3 jk)))
 have rY:Fit W (W.l.length+1) (one s).2:=(Hf.out.up HU.out).more Hm.out
 have DT:=ae rY
 clear hx hP hB hz hz1 MP hg8 VJ hb3 hal hP3 hx3 jk rY hg4 hg6
 go_wp2_with (fail)
 refine(Hop.out _ _ H3.out.1 H3.out.2.1).mono ?_
 rintro e w4 ⟨rfl,Jf,hB4⟩
 have iP:=H3.out.2.1.trans' hB4
 have H4:=ae (And.intro Jf (And.intro iP (And.intro (ah H3.out.2.2.2 hB4 H7.out) (H3.out.2.2.1.kept (fK hB4 Qs.out)))))
 clear Jf hB4 iP x0 x1 xl
 go_wp2
 go_loopw [8] (fun i wr=>∃ (op:Int) (e:Ex) (s':au) (k D:Nat) (A2:Option Addr) (m2 c2:Nat),i=.int .i64 op∧aW gp gc gw W s' wr∧But (fV gp gc) w wr∧af wr w.heap.size 192 #[.slice A n ca,.slice B n cb]∧af wr (w.heap.size+1) 55 zero6 ∧
   af wr w2.heap.size 55 #[.int .i64 e.op,.int .i64 e.n,.string e.s,.string e.name,.string e.src,.slice A2 m2 c2]∧Hid (aC (fun b=>w1.heap.size≤b∧b≠w2.heap.size) D wr [.int .i64 e.op,.int .i64 e.n,.string e.s,.string e.name,.string e.src,.slice A2 m2 c2] e)∧Hid (fin=oN W l one k op e s')∧Hid (Fit W (k+1) s'∧(op≠0→1≤op∧op≤100∧1≤k∧Fit W k s'∧Fit W m s'))∧But (fV gp gc) w1 wr)
  (fun i wr=>Sl W (intOf i) (oP wr gc))
 case atStart =>
  have hg4:gp<w.heap.size∧gc<w.heap.size:=⟨vg.out.1,vg.out.2.1⟩
  exact⟨_,(one s).1,(jH W l (one s).2).2,W.l.length,D,A1,m1,c1,rfl,H4.out.1,(But.of_below Hb1.out).trans' H4.out.2.1,ah tK.out H4.out.2.1 hg4,ah MO.out H4.out.2.1 (by omega),H4.out.2.2.1,ae H4.out.2.2.2,ae (bn.out.trans (ve ..)),ae (oO DT.out (Hf.out.up HU.out) wW.out),H4.out.2.1⟩
 case round =>
  obtain⟨op,e,s',k,D,A2,m2,c2,rfl,hP,hB,hk4,hk6,jk,HX,HF,HS,hB1⟩:=hrel
  obtain⟨x0,x1,xl⟩:=cells2 hk4
  obtain⟨y0,y1,y2,y3,y4,y5,yl⟩:=aH hk6
  obtain⟨z0,z1,z2,z3,z4,z5,zl⟩:=aH jk
  have f6:=hk6.frozen
  have f7:=jk.frozen
  rcases Classical.em (op=0) with h0|h0
  ·subst h0
   have wY:fin=(e,s'):=by rw[HF.out];unfold oN;rw[if_pos rfl]
   have Hf0:=ae wY
   have H:=ae (And.intro hP (And.intro hB1 (And.intro hk6 HX.out)))
   clear hP hB hk4 hk6 jk hB1 wY
   go_wp2
   rw[bJ]
   have hb7:=fP wr (w.heap.size+1) (.int .i64 e.op) (.int .i64 e.n) (.string e.s) (.string e.name) (.string e.src) (.slice A2 m2 c2)
   have jk:=fO (.int .i64 e.op) (.int .i64 e.n) (.string e.s) (.string e.name) (.string e.src) (.slice A2 m2 c2) H.out.2.2.1
   generalize uJ wr (w.heap.size+1) (.int .i64 e.op) (.int .i64 e.n) (.string e.s) (.string e.name) (.string e.src) (.slice A2 m2 c2)=w7 at *
   have hz1:=Hb1.out.size
   have hz2:=MO.out.lt
   refine bodyPost_ret (v:=.agg #[.int .i64 e.op,.int .i64 e.n,.string e.s,.string e.name,.string e.src,.slice A2 m2 c2]) (fA Tryz.results145 rfl jk rfl) rfl ?_
   rw[Hf0.out]
   refine⟨[.int .i64 e.op,.int .i64 e.n,.string e.s,.string e.name,.string e.src,.slice A2 m2 c2],D,rfl,?_,H.out.1.elsewhere hb7 (by have:=vg.out;omega),((But.of_below Hb1.out).trans' H.out.2.1).trans hb7 (fun i hi=>.inr (by omega))⟩
   exact aC.conv (fun k (hk:w1.heap.size≤k∧k≠w2.heap.size)=>by show w.heap.size≤k;omega) (Kept.aN hb7 fun k hk e=>by omega) D (Nat.le_refl _) H.out.2.2.2
  ·have q0:(op !=0)=true:=by simpa using h0
   obtain⟨hf1,hf2⟩:=HS.out
   obtain⟨ho1,ho2,hk1,hfk,hfm⟩:=hf2 h0
   have hat:=iQ hP
   have TK:=ae hat
   have H:=ae (And.intro hP (And.intro hB (And.intro hk4 (And.intro hk6 (And.intro jk hB1)))))
   have Ho:=ae (And.intro ho1 (And.intro ho2 (And.intro hk1 (And.intro hfk hfm))))
   have H0:=ae h0
   clear hP hB hk4 hk6 jk hB1 hf1 hf2 ho1 ho2 hk1 hfk hfm h0 hat
   go_wp2
   have Hd:=ae (And.intro (show aW gp gc gw W s' wr.drew from H.out.1.below (Below.refl _ _).drew) (show af wr.drew w2.heap.size 55 #[.int .i64 e.op,.int .i64 e.n,.string e.s,.string e.name,.string e.src,.slice A2 m2 c2] from H.out.2.2.2.2.1))
   have HX2:=ae (show aC (fun b=>w1.heap.size≤b∧b≠w2.heap.size) D wr.drew [.int .i64 e.op,.int .i64 e.n,.string e.s,.string e.name,.string e.src,.slice A2 m2 c2] e from HX.out.below (Below.refl _ _).drew)
   have VK:w1.heap.size≤wr.drew.heap.size∧w2.heap.size<wr.drew.heap.size:=⟨H.out.2.2.2.2.2.size,H.out.2.2.2.2.1.lt⟩
   have VL:=ae VK
   have MQ:=ae (fun (W2:World) (D2:Nat) (b:Ex) (rb:List Value) (hB2:But (fV gp gc) wr.drew W2) (hb:aC (Fr wr.drew) D2 W2 rb b)=>wX (fun b=>w1.heap.size≤b∧b≠w2.heap.size) (max D D2) op e b [.int .i64 e.op,.int .i64 e.n,.string e.s,.string e.name,.string e.src,.slice A2 m2 c2] rb W2 (by have:=Ho.out.1;omega) Ho.out.2.1
    (aC.conv (fun _ h=>h) (fK hB2 Qs.out) D (Nat.le_max_left _ _) HX2.out) (aC.conv (fun k (hk:wr.drew.heap.size≤k)=>by have:=VL.out;constructor<;>omega) (Kept.refl _ _) D2 (Nat.le_max_right _ _) hb) (fun k hk=>by have:=VL.out;have:=hB2.size;constructor<;>omega))
   clear VK
   go_region_with (first
    | (go_at_call 193;refine(Je.out s' _ Hd.out.1 Ho.out.2.2.2.2).mono ?_;rintro e5 w5 ⟨Ub,D5,rfl,hx5,pz,iP⟩;obtain⟨A5,m5,c5,rfl⟩:=bP hx5;obtain⟨z0,z1,z2,z3,z4,z5,zl⟩:=aH (ah Hd.out.2 iP H7.out))
    | (go_at_call 166;refine(MQ.out _ _ _ _ iP hx5).mono ?_;rintro e6 w6 ⟨ahv,rfl,hx6,hb6⟩;obtain⟨A6,m6,c6,rfl⟩:=bP hx6;have oQ:=ah Hd.out.2 iP H7.out;have vk:=oQ.ag (hb6.block _ oQ.lt);obtain⟨v0,v1,v2,v3,v4,v5,vl⟩:=aH vk;have f76:=vk.frozen;have H6:=ae (And.intro (pz.below hb6) (And.intro (iP.trans' (But.of_below hb6)) (And.intro vk hx6)))))
   all_goals
    rw[bJ]
    have hb7:=fP w6 w2.heap.size (.int .i64 (cO op e (one s').1).op) (.int .i64 (cO op e (one s').1).n) (.string (cO op e (one s').1).s) (.string (cO op e (one s').1).name) (.string (cO op e (one s').1).src) (.slice A6 m6 c6)
    have jk:=fO (.int .i64 (cO op e (one s').1).op) (.int .i64 (cO op e (one s').1).n) (.string (cO op e (one s').1).s) (.string (cO op e (one s').1).name) (.string (cO op e (one s').1).src) (.slice A6 m6 c6) H6.out.2.2.1
    generalize uJ w6 w2.heap.size (.int .i64 (cO op e (one s').1).op) (.int .i64 (cO op e (one s').1).n) (.string (cO op e (one s').1).s) (.string (cO op e (one s').1).name) (.string (cO op e (one s').1).src) (.slice A6 m6 c6)=w7 at *
    have hpu:=ae (And.intro (H6.out.1.elsewhere hb7 (by have:=H8.out;omega)) (And.intro (((H.out.2.2.2.2.2.drew).trans' H6.out.2.1).trans hb7 (fun i hi=>.inr (by have:=H8.out;omega))) (And.intro (H6.out.2.2.2.kept (Kept.aN hb7 fun k hk e=>hk.2 e)) jk)))
    clear hb7 jk z0 z1 z2 z3 z4 z5 zl v0 v1 v2 v3 v4 v5 vl x0 x1 xl y0 y1 y2 y3 y4 y5 yl f6 f7 f76 vk oQ hb6 pz iP hx5 hx6
    obtain⟨x0,x1,xl⟩:=cells2 (ah tK.out hpu.out.2.1 (by have:=vg.out;omega))
    go_wp2_with (fail)
    refine(Hop.out _ _ hpu.out.1 hpu.out.2.1).mono ?_
    rintro e8 w8 ⟨rfl,Uc,wu⟩
    have rM:=hpu.out.2.1.trans' wu
    have H9:=ae (And.intro Uc (And.intro rM (And.intro (ah hpu.out.2.2.2 wu H7.out) (hpu.out.2.2.1.kept (fK wu Qs.out)))))
    have hk1:=Ho.out.2.2.1
    obtain⟨k1,rfl⟩:∃ k1,k=k1+1:=⟨k-1,by omega⟩
    have hF9:fin=oN W l one k1 (jH W l (one s').2).1 (cO op e (one s').1) (jH W l (one s').2).2:=by
     rw[HF.out]
     unfold oN
     rw[if_neg H0.out]
     rfl
    have HF9:=ae hF9
    have hs9:=oO (l:=l) (Fit.up (one:=one) Ho.out.2.2.2.1 HU.out) (Fit.up (one:=one) Ho.out.2.2.2.2 HU.out) wW.out
    have HS9:=ae hs9
    have hm9:Sl W (jH W l (one s').2).1 (oP w8 gc)<Sl W op (oP wr gc):=by
     rw[iQ H9.out.1,TK.out]
     have h1:=(HU.out s').1
     have h2:=xQ (W:=W) (l:=l) (s:=(one s').2)
     have h3:=H9.out.1.le
     unfold Sl
     rw[if_neg H0.out]
     split
     ·rename_i h0
      rw[if_pos h0] at h2
      omega
     ·rename_i h0
      rw[if_neg h0] at h2
      omega
    have HM9:=ae hm9
    clear Uc wu rM hk1 hF9 hs9 hm9
    go_wp2
    go_roundw
    case rel=>exact⟨_,_,_,_,_,A6,m6,c6,rfl,H9.out.1,(But.of_below Hb1.out).trans' H9.out.2.1,ah tK.out H9.out.2.1 (by have:=vg.out;omega),ah MO.out H9.out.2.1 (by have:=vg.out;omega),H9.out.2.2.1,ae H9.out.2.2.2,HF9,HS9,H9.out.2.1⟩
    case measure=>exact HM9.out
end Go.Proofs.YtjjfkhbajidmdaaGreatDoor
