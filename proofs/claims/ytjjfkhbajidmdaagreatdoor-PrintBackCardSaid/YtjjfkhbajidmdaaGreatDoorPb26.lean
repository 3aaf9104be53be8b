/- Parts of this proof, one behind the other: ParE4, ParF, ParU, ParG0. -/
import Derived.Test.YtjjfkhbajidmdaaGreatDoorPb24
import Derived.Test.YtjjfkhbajidmdaaGreatDoorPb25
set_option maxRecDepth 1000000
set_option maxHeartbeats 40000000
namespace Go.Proofs.YtjjfkhbajidmdaaGreatDoor
open Go.RowKit Go.Afx
theorem Kq (gp gc gw:Nat) (W:aV) (s:au) (one:au→Ex×au) (m:Nat) (l:List (ByteArray×Int)) (A B:Option Addr) (n ca cb:Nat) (w:World) (h:aW gp gc gw W s w) (hf:Fit W m s) (hm:m≤W.l.length+1) (hT:fB gp gc gw W 195 one m) (hU:Up one) (hl:HY gp gc w A ca B cb l) (hn:l.length=n) (hop:∀ p∈l,1≤p.2∧p.2≤100) :
  Calls Tryz.prog 145 #[.pointer (some ⟨gp,0,none⟩),.agg #[.slice A n ca,.slice B n cb],.func (.func 195) #[.pointer (some ⟨gp,0,none⟩)] #[]] w (jv gp gc gw W (ed W l one s).2 (ed W l one s).1 w):=by
 obtain⟨w1,Hw1⟩:∃ w1,Hid (w1=(w.alloc (.cells #[.slice A n ca,.slice B n cb] 192)).alloc (.cells #[.int .i64 0,.int .i64 0,.string ⟨#[]⟩,.string ⟨#[]⟩,.string ⟨#[]⟩,.slice none 0 0] 55)):=⟨_,rfl⟩
 have hb1:Below w.heap.size w w1:=by rw[Hw1.out];exact((Below.refl _ _).alloc (Nat.le_refl _) _).alloc (by simp) _
 have hk4:af w1 w.heap.size 192 #[.slice A n ca,.slice B n cb]:=by rw[Hw1.out];exact(af.laid _ _ _).alloc _
 have hk6:af w1 (w.heap.size+1) 55 #[.int .i64 0,.int .i64 0,.string ⟨#[]⟩,.string ⟨#[]⟩,.string ⟨#[]⟩,.slice none 0 0]:=by rw[Hw1.out];exact jr (by simp)
 have hgs:=h.lt
 have hgw:=h.wl
 have h1:=h.below hb1
 have hl1:=hl.but (But.of_below hb1)
 have Je:=ae hT
 have HU:=ae hU
 have Hop:=ae (fun s' W2 (hW:aW gp gc gw W s' W2) (hB:But (fV gp gc) w1 W2)=>DR gp gc gw W s' l A B n ca cb W2 hW (hl1.but hB) hn)
 have wW:=ae hop
 have tK:=ae hk4
 have MO:=ae hk6
 have Hb1:=ae hb1
 have H1:=ae h1
 have vg:=ae (And.intro hgs.1 (And.intro hgs.2 hgw))
 have Hf:=ae hf
 have Hm:=ae hm
 clear h h1 hl hl1 hT hU hop hk4 hk6 hb1 hgs hgw hf hm
 have hfin:ed W l one s=jq W l one (W.l.length+1) (one s).1 (one s).2:=rfl
 generalize ed W l one s=fin at *
 have bn:=ae hfin
 clear hfin
 go_enter Tryz.func145,Tryz.ntmps145
 go_upto_region 1 with (fail)
 rw[← Hw1.out]
 go_wp2_with (fail)
 refine(Je.out s w1 H1.out Hf.out).mono ?_
 rintro e w2 ⟨row,D,rfl,hx,hP,hB⟩
 obtain⟨A1,m1,c1,rfl⟩:=bP hx
 have hg4:gp<w.heap.size∧gc<w.heap.size:=⟨vg.out.1,vg.out.2.1⟩
 have hg6:gp<w.heap.size+1∧gc<w.heap.size+1:=by omega
 have hz:=hB.size
 have hz1:=MO.out.lt
 have MP:gp<w2.heap.size∧gc<w2.heap.size:=by omega
 have hg8:gp<w2.heap.size∧gc<w2.heap.size∧gw<w2.heap.size∧w1.heap.size≤w2.heap.size:=⟨MP.1,MP.2,by have:=vg.out.2.2;omega,hz⟩
 have H8:=ae hg8
 have VJ:∀ k,w1.heap.size≤k∧k≠w2.heap.size→gp<k∧gc<k:=fun k hk=>by omega
 have Qs:=ae VJ
 have hx:=aC.turn (F':=fun b=>w1.heap.size≤b∧b≠w2.heap.size) (fun k hk hf=>⟨hf,by omega⟩) (Kept.refl _ _) D (Nat.le_refl _) hx
 have H7:=ae MP
 have hb3:But (fV gp gc) w1 (w2.alloc (.cells #[.int .i64 (one s).1.op,.int .i64 (one s).1.n,.string (one s).1.s,.string (one s).1.name,.string (one s).1.src,.slice A1 m1 c1] 55)):=hB.alloc _
 have hal:=(Below.refl w2.heap.size w2).alloc (Nat.le_refl _) (.cells #[.int .i64 (one s).1.op,.int .i64 (one s).1.n,.string (one s).1.s,.string (one s).1.name,.string (one s).1.src,.slice A1 m1 c1] 55)
 have hP3:=hP.below hal
 have hx3:=hx.below hal
 have jk:af (w2.alloc (.cells #[.int .i64 (one s).1.op,.int .i64 (one s).1.n,.string (one s).1.s,.string (one s).1.name,.string (one s).1.src,.slice A1 m1 c1] 55)) w2.heap.size 55 #[.int .i64 (one s).1.op,.int .i64 (one s).1.n,.string (one s).1.s,.string (one s).1.name,.string (one s).1.src,.slice A1 m1 c1]:=af.laid _ _ _
 obtain⟨x0,x1,xl⟩:=cells2 (ah tK.out hB hg4)
 have H3:=ae (And.intro hP3 (And.intro hb3 (And.intro hx3 jk)))
 have rY:Fit W (W.l.length+1) (one s).2:=(Hf.out.up HU.out).more Hm.out
 have DT:=ae rY
 clear hx hP hB hz hz1 MP hg8 VJ hb3 hal hP3 hx3 jk rY hg4 hg6
 go_wp2_with (fail)
 refine(Hop.out _ _ H3.out.1 H3.out.2.1).mono ?_
 rintro e w4 ⟨rfl,Jf,hB4⟩
 have iP:=H3.out.2.1.trans' hB4
 have H4:=ae (And.intro Jf (And.intro iP (And.intro (ah H3.out.2.2.2 hB4 H7.out) (H3.out.2.2.1.kept (fK hB4 Qs.out)))))
 clear Jf hB4 iP x0 x1 xl
 go_wp2
 go_loopw [8] (fun i wr=>∃ (op:Int) (e:Ex) (s':au) (k D:Nat) (A2:Option Addr) (m2 c2:Nat),i=.int .i64 op∧aW gp gc gw W s' wr∧But (fV gp gc) w wr∧af wr w.heap.size 192 #[.slice A n ca,.slice B n cb]∧af wr (w.heap.size+1) 55 zero6 ∧
   af wr w2.heap.size 55 #[.int .i64 e.op,.int .i64 e.n,.string e.s,.string e.name,.string e.src,.slice A2 m2 c2]∧Hid (aC (fun b=>w1.heap.size≤b∧b≠w2.heap.size) D wr [.int .i64 e.op,.int .i64 e.n,.string e.s,.string e.name,.string e.src,.slice A2 m2 c2] e)∧Hid (fin=oN W l one k op e s')∧Hid (Fit W (k+1) s'∧(op≠0→1≤op∧op≤100∧1≤k∧Fit W k s'∧Fit W m s'))∧But (fV gp gc) w1 wr)
  (fun i wr=>Sl W (intOf i) (oP wr gc))
 case atStart =>
  have hg4:gp<w.heap.size∧gc<w.heap.size:=⟨vg.out.1,vg.out.2.1⟩
  exact⟨_,(one s).1,(jH W l (one s).2).2,W.l.length,D,A1,m1,c1,rfl,H4.out.1,(But.of_below Hb1.out).trans' H4.out.2.1,ah tK.out H4.out.2.1 hg4,ah MO.out H4.out.2.1 (by omega),H4.out.2.2.1,ae H4.out.2.2.2,ae (bn.out.trans (ve ..)),ae (oO DT.out (Hf.out.up HU.out) wW.out),H4.out.2.1⟩
 case round =>
  obtain⟨op,e,s',k,D,A2,m2,c2,rfl,hP,hB,hk4,hk6,jk,HX,HF,HS,hB1⟩:=hrel
  obtain⟨x0,x1,xl⟩:=cells2 hk4
  obtain⟨y0,y1,y2,y3,y4,y5,yl⟩:=aH hk6
  obtain⟨z0,z1,z2,z3,z4,z5,zl⟩:=aH jk
  have f6:=hk6.frozen
  have f7:=jk.frozen
  rcases Classical.em (op=0) with h0|h0
  ·subst h0
   have wY:fin=(e,s'):=by rw[HF.out];unfold oN;rw[if_pos rfl]
   have Hf0:=ae wY
   have H:=ae (And.intro hP (And.intro hB1 (And.intro hk6 HX.out)))
   clear hP hB hk4 hk6 jk hB1 wY
   go_wp2
   rw[bJ]
   have hb7:=fP wr (w.heap.size+1) (.int .i64 e.op) (.int .i64 e.n) (.string e.s) (.string e.name) (.string e.src) (.slice A2 m2 c2)
   have jk:=fO (.int .i64 e.op) (.int .i64 e.n) (.string e.s) (.string e.name) (.string e.src) (.slice A2 m2 c2) H.out.2.2.1
   generalize uJ wr (w.heap.size+1) (.int .i64 e.op) (.int .i64 e.n) (.string e.s) (.string e.name) (.string e.src) (.slice A2 m2 c2)=w7 at *
   have hz1:=Hb1.out.size
   have hz2:=MO.out.lt
   refine bodyPost_ret (v:=.agg #[.int .i64 e.op,.int .i64 e.n,.string e.s,.string e.name,.string e.src,.slice A2 m2 c2]) (fA Tryz.results145 rfl jk rfl) rfl ?_
   rw[Hf0.out]
   refine⟨[.int .i64 e.op,.int .i64 e.n,.string e.s,.string e.name,.string e.src,.slice A2 m2 c2],D,rfl,?_,H.out.1.elsewhere hb7 (by have:=vg.out;omega),((But.of_below Hb1.out).trans' H.out.2.1).trans hb7 (fun i hi=>.inr (by omega))⟩
   exact aC.conv (fun k (hk:w1.heap.size≤k∧k≠w2.heap.size)=>by show w.heap.size≤k;omega) (Kept.aN hb7 fun k hk e=>by omega) D (Nat.le_refl _) H.out.2.2.2
  ·have q0:(op !=0)=true:=by simpa using h0
   obtain⟨hf1,hf2⟩:=HS.out
   obtain⟨ho1,ho2,hk1,hfk,hfm⟩:=hf2 h0
   have hat:=iQ hP
   have TK:=ae hat
   have H:=ae (And.intro hP (And.intro hB (And.intro hk4 (And.intro hk6 (And.intro jk hB1)))))
   have Ho:=ae (And.intro ho1 (And.intro ho2 (And.intro hk1 (And.intro hfk hfm))))
   have H0:=ae h0
   clear hP hB hk4 hk6 jk hB1 hf1 hf2 ho1 ho2 hk1 hfk hfm h0 hat
   go_wp2
   have Hd:=ae (And.intro (show aW gp gc gw W s' wr.drew from H.out.1.below (Below.refl _ _).drew) (show af wr.drew w2.heap.size 55 #[.int .i64 e.op,.int .i64 e.n,.string e.s,.string e.name,.string e.src,.slice A2 m2 c2] from H.out.2.2.2.2.1))
   have HX2:=ae (show aC (fun b=>w1.heap.size≤b∧b≠w2.heap.size) D wr.drew [.int .i64 e.op,.int .i64 e.n,.string e.s,.string e.name,.string e.src,.slice A2 m2 c2] e from HX.out.below (Below.refl _ _).drew)
   have VK:w1.heap.size≤wr.drew.heap.size∧w2.heap.size<wr.drew.heap.size:=⟨H.out.2.2.2.2.2.size,H.out.2.2.2.2.1.lt⟩
   have VL:=ae VK
   have MQ:=ae (fun (W2:World) (D2:Nat) (b:Ex) (rb:List Value) (hB2:But (fV gp gc) wr.drew W2) (hb:aC (Fr wr.drew) D2 W2 rb b)=>wX (fun b=>w1.heap.size≤b∧b≠w2.heap.size) (max D D2) op e b [.int .i64 e.op,.int .i64 e.n,.string e.s,.string e.name,.string e.src,.slice A2 m2 c2] rb W2 (by have:=Ho.out.1;omega) Ho.out.2.1
    (aC.conv (fun _ h=>h) (fK hB2 Qs.out) D (Nat.le_max_left _ _) HX2.out) (aC.conv (fun k (hk:wr.drew.heap.size≤k)=>by have:=VL.out;constructor<;>omega) (Kept.refl _ _) D2 (Nat.le_max_right _ _) hb) (fun k hk=>by have:=VL.out;have:=hB2.size;constructor<;>omega))
   clear VK
   go_region_with (first
    | (go_at_call 195;refine(Je.out s' _ Hd.out.1 Ho.out.2.2.2.2).mono ?_;rintro e5 w5 ⟨Ub,D5,rfl,hx5,pz,iP⟩;obtain⟨A5,m5,c5,rfl⟩:=bP hx5;obtain⟨z0,z1,z2,z3,z4,z5,zl⟩:=aH (ah Hd.out.2 iP H7.out))
    | (go_at_call 166;refine(MQ.out _ _ _ _ iP hx5).mono ?_;rintro e6 w6 ⟨ahv,rfl,hx6,hb6⟩;obtain⟨A6,m6,c6,rfl⟩:=bP hx6;have oQ:=ah Hd.out.2 iP H7.out;have vk:=oQ.ag (hb6.block _ oQ.lt);obtain⟨v0,v1,v2,v3,v4,v5,vl⟩:=aH vk;have f76:=vk.frozen;have H6:=ae (And.intro (pz.below hb6) (And.intro (iP.trans' (But.of_below hb6)) (And.intro vk hx6)))))
   all_goals
    rw[bJ]
    have hb7:=fP w6 w2.heap.size (.int .i64 (cO op e (one s').1).op) (.int .i64 (cO op e (one s').1).n) (.string (cO op e (one s').1).s) (.string (cO op e (one s').1).name) (.string (cO op e (one s').1).src) (.slice A6 m6 c6)
    have jk:=fO (.int .i64 (cO op e (one s').1).op) (.int .i64 (cO op e (one s').1).n) (.string (cO op e (one s').1).s) (.string (cO op e (one s').1).name) (.string (cO op e (one s').1).src) (.slice A6 m6 c6) H6.out.2.2.1
    generalize uJ w6 w2.heap.size (.int .i64 (cO op e (one s').1).op) (.int .i64 (cO op e (one s').1).n) (.string (cO op e (one s').1).s) (.string (cO op e (one s').1).name) (.string (cO op e (one s').1).src) (.slice A6 m6 c6)=w7 at *
    have hpu:=ae (And.intro (H6.out.1.elsewhere hb7 (by have:=H8.out;omega)) (And.intro (((H.out.2.2.2.2.2.drew).trans' H6.out.2.1).trans hb7 (fun i hi=>.inr (by have:=H8.out;omega))) (And.intro (H6.out.2.2.2.kept (Kept.aN hb7 fun k hk e=>hk.2 e)) jk)))
    clear hb7 jk z0 z1 z2 z3 z4 z5 zl v0 v1 v2 v3 v4 v5 vl x0 x1 xl y0 y1 y2 y3 y4 y5 yl f6 f7 f76 vk oQ hb6 pz iP hx5 hx6
    obtain⟨x0,x1,xl⟩:=cells2 (ah tK.out hpu.out.2.1 (by have:=vg.out;omega))
    go_wp2_with (fail)
    refine(Hop.out _ _ hpu.out.1 hpu.out.2.1).mono ?_
    rintro e8 w8 ⟨rfl,Uc,wu⟩
    have rM:=hpu.out.2.1.trans' wu
    have H9:=ae (And.intro Uc (And.intro rM (And.intro (ah hpu.out.2.2.2 wu H7.out) (hpu.out.2.2.1.kept (fK wu Qs.out)))))
    have hk1:=Ho.out.2.2.1
    obtain⟨k1,rfl⟩:∃ k1,k=k1+1:=⟨k-1,by omega⟩
    have hF9:fin=oN W l one k1 (jH W l (one s').2).1 (cO op e (one s').1) (jH W l (one s').2).2:=by
     rw[HF.out]
     unfold oN
     rw[if_neg H0.out]
     rfl
    have HF9:=ae hF9
    have hs9:=oO (l:=l) (Fit.up (one:=one) Ho.out.2.2.2.1 HU.out) (Fit.up (one:=one) Ho.out.2.2.2.2 HU.out) wW.out
    have HS9:=ae hs9
    have hm9:Sl W (jH W l (one s').2).1 (oP w8 gc)<Sl W op (oP wr gc):=by
     rw[iQ H9.out.1,TK.out]
     have h1:=(HU.out s').1
     have h2:=xQ (W:=W) (l:=l) (s:=(one s').2)
     have h3:=H9.out.1.le
     unfold Sl
     rw[if_neg H0.out]
     split
     ·rename_i h0
      rw[if_pos h0] at h2
      omega
     ·rename_i h0
      rw[if_neg h0] at h2
      omega
    have HM9:=ae hm9
    clear Uc wu rM hk1 hF9 hs9 hm9
    go_wp2
    go_roundw
    case rel=>exact⟨_,_,_,_,_,A6,m6,c6,rfl,H9.out.1,(But.of_below Hb1.out).trans' H9.out.2.1,ah tK.out H9.out.2.1 (by have:=vg.out;omega),ah MO.out H9.out.2.1 (by have:=vg.out;omega),H9.out.2.2.1,ae H9.out.2.2.2,HF9,HS9,H9.out.2.1⟩
    case measure=>exact HM9.out
theorem Jh (gp gc:Nat) (w:World) (l:List (ByteArray×Int)) (n g1 g2:Nat) (e1:g1=w.heap.size) (e2:g2=w.heap.size+1) (hg:gp<w.heap.size∧gc<w.heap.size) (hn2:l.length=n) (hn:n≤1000) :
  HY gp gc ((w.alloc (.cells (l.map fun p=>Value.string p.1).toArray 9)).alloc (.cells (l.map fun p=>Value.int .i64 p.2).toArray 3)) (some ⟨g1,0,none⟩) n (some ⟨g2,0,none⟩) n l ∧
  Below w.heap.size w ((w.alloc (.cells (l.map fun p=>Value.string p.1).toArray 9)).alloc (.cells (l.map fun p=>Value.int .i64 p.2).toArray 3)):=by
 subst hn2 e1 e2
 have hb:=(Below.refl w.heap.size w).alloc (Nat.le_refl _) (.cells (l.map fun p=>Value.string p.1).toArray 9)
 have h1:=rX.lit (w:=w) 9 (l.map (·.1)) l.length rfl (by simp) hn
 rw[List.map_map] at h1
 have h2:=az.below h1 ((Below.refl _ _).alloc (Nat.le_refl _) (.cells (l.map fun p=>Value.int .i64 p.2).toArray 3))
 have h3:az ((w.alloc (.cells (l.map fun p=>Value.string p.1).toArray 9)).alloc (.cells (l.map fun p=>Value.int .i64 p.2).toArray 3)) 1 (some ⟨w.heap.size+1,0,none⟩) l.length l.length (l.map fun p=>[.int .i64 p.2]):=by
  refine az.nG _ _ l.length (by simp) ?_ (fun r hr=>by obtain⟨p,_,rfl⟩:=List.mem_map.1 hr;rfl) (by simp) (by unfold maxLen;omega)
  clear h1 h2 hb hn
  show l.map (fun p=>Value.int .i64 p.2)=_
  induction l with
  | nil=>rfl
  | cons p l ih=>rw[List.map_cons,List.map_cons,List.flatten_cons,← ih];rfl
 refine⟨⟨h2,h3,fun x hx=>?_,fun x hx=>?_⟩,hb.alloc (by simp) _⟩
 ·cases hx
  constructor<;>(show w.heap.size≠_;omega)
 ·cases hx
  constructor<;>(show w.heap.size+1≠_;omega)
theorem Ip {w w3 w4 w7:World} {D g:Nat} {row:List Value} {e:Ex} (h:aC (Fr w3) D w4 row e) (hb:Below w.heap.size w w3) (hg:g<w3.heap.size) (h7:But (fun k=>k=g) w4 w7):aC (Fr w) D w7 row e :=
 aC.conv (fun k (hk:w3.heap.size≤k)=>by have:=hb.size;show w.heap.size≤k;omega) (Kept.aN h7 fun k (hk:w3.heap.size≤k) e=>by omega) D (Nat.le_refl _) h
theorem MR (gp gc gw:Nat) (W:aV) (one:au→Ex×au) (m:Nat) (hm:m≤W.l.length+1) (hT:fB gp gc gw W 195 one m) (hU:Up one):fB gp gc gw W 193 (ed W FW one) m:=by
 intro s w h hf
 have hz:=h.lt
 have hb1:=(Below.refl w.heap.size w).alloc (Nat.le_refl _) (.cells zero6 55)
 have hk1:=af.laid w 55 zero6
 have hg1:gp<(w.alloc (.cells zero6 55)).heap.size∧gc<(w.alloc (.cells zero6 55)).heap.size:=by simp;omega
 obtain⟨hlv,hb2⟩:=Jh gp gc (w.alloc (.cells zero6 55)) FW 3 (w.heap.size+1) (w.heap.size+1+1) (by simp) (by simp) hg1 rfl (by decide)
 have hb3:=hb1.trans (hb2.mono (by simp))
 have hk3:=hk1.ag (hb2.block _ (by simp))
 have hc:=Kq gp gc gw W s one m FW _ _ 3 _ _ _ (h.below hb3) hf hm hT hU hlv rfl (by unfold FW;decide)
 have Hb3:=ae hb3
 have qi:=ae hk3
 have Hz:=ae (And.intro hz.1 (And.intro hz.2 h.wl))
 clear hb3 hk3 hz h hf hT hU hb1 hk1 hg1 hlv hb2
 generalize ed W FW one s=fin at *
 simp only[FW,str,List.map_cons,List.map_nil] at hc Hb3 qi
 have Hc:=ae hc
 clear hc
 go_enter Tryz.func193,Tryz.ntmps193
 go_wp2_with (fail)
 refine Hc.out.mono ?_
 rintro e w4 ⟨row,D,rfl,hx,hP,hB⟩
 obtain⟨A2,m2,c2,rfl⟩:=bP hx
 have hk4:=ah qi.out hB (by have:=Hz.out;omega)
 obtain⟨x0,x1,x2,x3,x4,x5,xl⟩:=aH hk4
 have f4:=hk4.frozen
 have H:=ae (And.intro hx (And.intro hP (And.intro hB hk4)))
 clear hx hP hB hk4
 go_wp2
 rw[bJ]
 have hb7:=fP w4 w.heap.size (.int .i64 fin.1.op) (.int .i64 fin.1.n) (.string fin.1.s) (.string fin.1.name) (.string fin.1.src) (.slice A2 m2 c2)
 have jk:=fO (.int .i64 fin.1.op) (.int .i64 fin.1.n) (.string fin.1.s) (.string fin.1.name) (.string fin.1.src) (.slice A2 m2 c2) H.out.2.2.2
 generalize uJ w4 w.heap.size (.int .i64 fin.1.op) (.int .i64 fin.1.n) (.string fin.1.s) (.string fin.1.name) (.string fin.1.src) (.slice A2 m2 c2)=w7 at *
 refine bodyPost_ret (v:=.agg #[.int .i64 fin.1.op,.int .i64 fin.1.n,.string fin.1.s,.string fin.1.name,.string fin.1.src,.slice A2 m2 c2]) (fA Tryz.results193 rfl jk rfl) rfl ?_
 exact⟨_,D,rfl,Ip H.out.1 Hb3.out (by simp;omega) hb7,H.out.2.1.elsewhere hb7 (by have:=Hz.out;omega),((But.of_below Hb3.out).trans' H.out.2.2.1).trans hb7 (fun i hi=>.inr (by omega))⟩
theorem aa5 (gp gc gw:Nat) (W:aV) (one:au→Ex×au) (m:Nat) (hm:m≤W.l.length+1) (hT:fB gp gc gw W 193 one m) (hU:Up one):fB gp gc gw W 186 (ed W FV one) m:=by
 intro s w h hf
 have hz:=h.lt
 have hb1:=(Below.refl w.heap.size w).alloc (Nat.le_refl _) (.cells zero6 55)
 have hk1:=af.laid w 55 zero6
 have hg1:gp<(w.alloc (.cells zero6 55)).heap.size∧gc<(w.alloc (.cells zero6 55)).heap.size:=by simp;omega
 obtain⟨hlv,hb2⟩:=Jh gp gc (w.alloc (.cells zero6 55)) FV 2 (w.heap.size+1) (w.heap.size+1+1) (by simp) (by simp) hg1 rfl (by decide)
 have hb3:=hb1.trans (hb2.mono (by simp))
 have hk3:=hk1.ag (hb2.block _ (by simp))
 have hc:=Jg gp gc gw W s one m FV _ _ 2 _ _ _ (h.below hb3) hf hm hT hU hlv rfl (by unfold FV;decide)
 have Hb3:=ae hb3
 have qi:=ae hk3
 have Hz:=ae (And.intro hz.1 (And.intro hz.2 h.wl))
 clear hb3 hk3 hz h hf hT hU hb1 hk1 hg1 hlv hb2
 generalize ed W FV one s=fin at *
 simp only[FV,str,List.map_cons,List.map_nil] at hc Hb3 qi
 have Hc:=ae hc
 clear hc
 go_enter Tryz.func186,Tryz.ntmps186
 go_wp2_with (fail)
 refine Hc.out.mono ?_
 rintro e w4 ⟨row,D,rfl,hx,hP,hB⟩
 obtain⟨A2,m2,c2,rfl⟩:=bP hx
 have hk4:=ah qi.out hB (by have:=Hz.out;omega)
 obtain⟨x0,x1,x2,x3,x4,x5,xl⟩:=aH hk4
 have f4:=hk4.frozen
 have H:=ae (And.intro hx (And.intro hP (And.intro hB hk4)))
 clear hx hP hB hk4
 go_wp2
 rw[bJ]
 have hb7:=fP w4 w.heap.size (.int .i64 fin.1.op) (.int .i64 fin.1.n) (.string fin.1.s) (.string fin.1.name) (.string fin.1.src) (.slice A2 m2 c2)
 have jk:=fO (.int .i64 fin.1.op) (.int .i64 fin.1.n) (.string fin.1.s) (.string fin.1.name) (.string fin.1.src) (.slice A2 m2 c2) H.out.2.2.2
 generalize uJ w4 w.heap.size (.int .i64 fin.1.op) (.int .i64 fin.1.n) (.string fin.1.s) (.string fin.1.name) (.string fin.1.src) (.slice A2 m2 c2)=w7 at *
 refine bodyPost_ret (v:=.agg #[.int .i64 fin.1.op,.int .i64 fin.1.n,.string fin.1.s,.string fin.1.name,.string fin.1.src,.slice A2 m2 c2]) (fA Tryz.results186 rfl jk rfl) rfl ?_
 exact⟨_,D,rfl,Ip H.out.1 Hb3.out (by simp;omega) hb7,H.out.2.1.elsewhere hb7 (by have:=Hz.out;omega),((But.of_below Hb3.out).trans' H.out.2.2.1).trans hb7 (fun i hi=>.inr (by omega))⟩
theorem Xk (gp gc gw:Nat) (W:aV) (one:au→Ex×au) (m:Nat) (hm:m≤W.l.length+1) (hT:fB gp gc gw W 167 one m) (hU:Up one):fB gp gc gw W 146 (ed W FU one) m:=by
 intro s w h hf
 have hz:=h.lt
 have hb1:=(Below.refl w.heap.size w).alloc (Nat.le_refl _) (.cells zero6 55)
 have hk1:=af.laid w 55 zero6
 have hg1:gp<(w.alloc (.cells zero6 55)).heap.size∧gc<(w.alloc (.cells zero6 55)).heap.size:=by simp;omega
 obtain⟨hlv,hb2⟩:=Jh gp gc (w.alloc (.cells zero6 55)) FU 1 (w.heap.size+1) (w.heap.size+1+1) (by simp) (by simp) hg1 rfl (by decide)
 have hb3:=hb1.trans (hb2.mono (by simp))
 have hk3:=hk1.ag (hb2.block _ (by simp))
 have hc:=Ud gp gc gw W s one m FU _ _ 1 _ _ _ (h.below hb3) hf hm hT hU hlv rfl (by unfold FU;decide)
 have Hb3:=ae hb3
 have qi:=ae hk3
 have Hz:=ae (And.intro hz.1 (And.intro hz.2 h.wl))
 clear hb3 hk3 hz h hf hT hU hb1 hk1 hg1 hlv hb2
 generalize ed W FU one s=fin at *
 simp only[FU,str,List.map_cons,List.map_nil] at hc Hb3 qi
 have Hc:=ae hc
 clear hc
 go_enter Tryz.func146,Tryz.ntmps146
 go_wp2_with (fail)
 refine Hc.out.mono ?_
 rintro e w4 ⟨row,D,rfl,hx,hP,hB⟩
 obtain⟨A2,m2,c2,rfl⟩:=bP hx
 have hk4:=ah qi.out hB (by have:=Hz.out;omega)
 obtain⟨x0,x1,x2,x3,x4,x5,xl⟩:=aH hk4
 have f4:=hk4.frozen
 have H:=ae (And.intro hx (And.intro hP (And.intro hB hk4)))
 clear hx hP hB hk4
 go_wp2
 rw[bJ]
 have hb7:=fP w4 w.heap.size (.int .i64 fin.1.op) (.int .i64 fin.1.n) (.string fin.1.s) (.string fin.1.name) (.string fin.1.src) (.slice A2 m2 c2)
 have jk:=fO (.int .i64 fin.1.op) (.int .i64 fin.1.n) (.string fin.1.s) (.string fin.1.name) (.string fin.1.src) (.slice A2 m2 c2) H.out.2.2.2
 generalize uJ w4 w.heap.size (.int .i64 fin.1.op) (.int .i64 fin.1.n) (.string fin.1.s) (.string fin.1.name) (.string fin.1.src) (.slice A2 m2 c2)=w7 at *
 refine bodyPost_ret (v:=.agg #[.int .i64 fin.1.op,.int .i64 fin.1.n,.string fin.1.s,.string fin.1.name,.string fin.1.src,.slice A2 m2 c2]) (fA Tryz.results146 rfl jk rfl) rfl ?_
 exact⟨_,D,rfl,Ip H.out.1 Hb3.out (by simp;omega) hb7,H.out.2.1.elsewhere hb7 (by have:=Hz.out;omega),((But.of_below Hb3.out).trans' H.out.2.2.1).trans hb7 (fun i hi=>.inr (by omega))⟩
theorem Xl (gp gc gw:Nat) (W:aV) (one:au→Ex×au) (m:Nat) (hm:m≤W.l.length+1) (hT:fB gp gc gw W 146 one m) (hU:Up one):fB gp gc gw W 126 (ed W MK one) m:=by
 intro s w h hf
 have hz:=h.lt
 have hb1:=(Below.refl w.heap.size w).alloc (Nat.le_refl _) (.cells zero6 55)
 have hk1:=af.laid w 55 zero6
 have hg1:gp<(w.alloc (.cells zero6 55)).heap.size∧gc<(w.alloc (.cells zero6 55)).heap.size:=by simp;omega
 obtain⟨hlv,hb2⟩:=Jh gp gc (w.alloc (.cells zero6 55)) MK 1 (w.heap.size+1) (w.heap.size+1+1) (by simp) (by simp) hg1 rfl (by decide)
 have hb3:=hb1.trans (hb2.mono (by simp))
 have hk3:=hk1.ag (hb2.block _ (by simp))
 have hc:=Qr gp gc gw W s one m MK _ _ 1 _ _ _ (h.below hb3) hf hm hT hU hlv rfl (by unfold MK;decide)
 have Hb3:=ae hb3
 have qi:=ae hk3
 have Hz:=ae (And.intro hz.1 (And.intro hz.2 h.wl))
 clear hb3 hk3 hz h hf hT hU hb1 hk1 hg1 hlv hb2
 generalize ed W MK one s=fin at *
 simp only[MK,str,List.map_cons,List.map_nil] at hc Hb3 qi
 have Hc:=ae hc
 clear hc
 go_enter Tryz.func126,Tryz.ntmps126
 go_wp2_with (fail)
 refine Hc.out.mono ?_
 rintro e w4 ⟨row,D,rfl,hx,hP,hB⟩
 obtain⟨A2,m2,c2,rfl⟩:=bP hx
 have hk4:=ah qi.out hB (by have:=Hz.out;omega)
 obtain⟨x0,x1,x2,x3,x4,x5,xl⟩:=aH hk4
 have f4:=hk4.frozen
 have H:=ae (And.intro hx (And.intro hP (And.intro hB hk4)))
 clear hx hP hB hk4
 go_wp2
 rw[bJ]
 have hb7:=fP w4 w.heap.size (.int .i64 fin.1.op) (.int .i64 fin.1.n) (.string fin.1.s) (.string fin.1.name) (.string fin.1.src) (.slice A2 m2 c2)
 have jk:=fO (.int .i64 fin.1.op) (.int .i64 fin.1.n) (.string fin.1.s) (.string fin.1.name) (.string fin.1.src) (.slice A2 m2 c2) H.out.2.2.2
 generalize uJ w4 w.heap.size (.int .i64 fin.1.op) (.int .i64 fin.1.n) (.string fin.1.s) (.string fin.1.name) (.string fin.1.src) (.slice A2 m2 c2)=w7 at *
 refine bodyPost_ret (v:=.agg #[.int .i64 fin.1.op,.int .i64 fin.1.n,.string fin.1.s,.string fin.1.name,.string fin.1.src,.slice A2 m2 c2]) (fA Tryz.results126 rfl jk rfl) rfl ?_
 exact⟨_,D,rfl,Ip H.out.1 Hb3.out (by simp;omega) hb7,H.out.2.1.elsewhere hb7 (by have:=Hz.out;omega),((But.of_below Hb3.out).trans' H.out.2.2.1).trans hb7 (fun i hi=>.inr (by omega))⟩
def Ge (s s':au):Prop:=s.at_≤s'.at_∧(s.bad=true→s'.bad=true)
theorem Ge.refl (s:au):Ge s s:=⟨Nat.le_refl _,id⟩
theorem Ge.trans {a b c:au} (h:Ge a b) (k:Ge b c):Ge a c:=⟨Nat.le_trans h.1 k.1,fun x=>k.2 (h.2 x)⟩
theorem Fit.ge {W:aV} {m:Nat} {s s':au} (h:Fit W m s) (hg:Ge s s'):Fit W m s':=h.imp (hg.2) (fun h=>by have:=hg.1;omega)
theorem uK (s:au):Ge s s.on:=⟨Nat.le_succ _,id⟩
theorem xR (s:au):Ge s s.fail:=⟨Nat.le_refl _,fun _=>rfl⟩
theorem ja (W:aV) (t:ByteArray) (s:au):Ge s (ay W t s).2:=by
 unfold ay
 split
 ·exact uK s
 ·exact Ge.refl s
theorem bY (W:aV) (t:ByteArray) (s:au):Ge s (ak W [t] s):=by
 unfold ak ak
 split
 ·exact ja W t s
 ·exact xR s
theorem dW (s:au):Ge s (aG s):=by
 unfold aG
 split
 ·exact⟨Nat.le_refl _,fun _=>rfl⟩
 ·exact⟨Nat.le_refl _,id⟩
theorem jb (s:au):Ge s (dw s):=⟨Nat.le_refl _,id⟩
theorem jK (W:aV) (s:au):Ge s (aS W s).2:=by
 unfold aS
 split
 ·exact xR s
 ·exact uK s
theorem Ue (W:aV) (s:au):Ge s (mP W s).2:=by
 unfold mP
 split
 ·exact Ge.refl s
 ·split
  ·exact uK s
  ·exact xR s
theorem KR (W:aV) (l:List (ByteArray×Int)) (s:au):Ge s (jH W l s).2:=by
 rcases xP W s l with h|⟨p,_,h,_⟩
 ·rw[h];exact Ge.refl s
 ·rw[h];exact uK s
theorem Ji (W:aV) (l:List (ByteArray×Int)) {one:au→Ex×au} (h:∀ s,Ge s (one s).2):∀ (k:Nat) (e:Ex) (s:au),Ge s (jq W l one k e s).2:=by
 intro k
 induction k with
 | zero=>exact fun e s=>Ge.refl s
 | succ k ih =>
  intro e s
  unfold jq
  split
  ·exact KR W l s
  ·exact(KR W l s).trans ((h _).trans (ih _ _))
theorem xU (W:aV) (l:List (ByteArray×Int)) {one:au→Ex×au} (h:∀ s,Ge s (one s).2) (s:au):Ge s (ed W l one s).2:=(h s).trans (Ji W l h _ _ _)
theorem kN (W:aV) (s:au):Ge s (bF W s).2:=(jK W s).trans ((bY W _ _).trans (jK W _))
section
variable (W:aV) {E:au→Ex×au} (h:∀ s,Ge s (E s).2)
include h
theorem jB (s:au):Ge s (bG W E s).2:=by
 unfold bG
 split
 ·exact(ja W _ s).trans (h _)
 ·exact Ge.refl s
omit h in
theorem Xm (s:au):Ge s (dE W s).2:=by
 unfold dE
 split
 ·exact ja W _ s
 ·split
  ·exact ja W _ s
  ·split
   ·exact ja W _ s
   ·exact bY W _ s
theorem ad8 (s:au):Ge s (tY W E s).2:=by
 have h1:=(Xm W s).trans ((bY W (str [40]) _).trans ((dW _).trans ((kN W _).trans (jB W h _))))
 unfold tY
 simp only
 split
 ·exact h1.trans ((bY W _ _).trans (jb _))
 ·exact h1.trans ((bY W _ _).trans ((h _).trans ((bY W _ _).trans (jb _))))
theorem aa6 (s:au):Ge s (EK W E s).2:=(bY W _ s).trans ((dW _).trans ((h _).trans ((bY W _ _).trans (jb _))))
omit h in
theorem ahz (s:au):Ge s (Ko W s).2:=by
 unfold Ko
 simp only
 split
 ·exact(jK W s).trans ((ja W _ _).trans (jK W _))
 ·exact jK W s
theorem Xn (s:au):Ge s (eY W E s).2:=by
 unfold eY
 repeat' split
 all_goals first|exact Ge.refl s|exact uK s|exact ad8 W h s|exact aa6 W h s|exact ahz W s
theorem xW:∀ (k:Nat) (s:au),Ge s (dG W E k s).2:=by
 intro k
 induction k with
 | zero=>exact fun s=>Ge.refl s
 | succ k ih =>
  intro s
  unfold dG
  split
  ·exact(ja W _ s).trans ((dW _).trans ((ih _).trans (jb _)))
  ·exact Xn W h s
theorem zQ (s:au):Ge s (uG W E s).2:=xU W _ (xW W h _) s
theorem EL (s:au):Ge s (sumP W E s).2:=xU W _ (zQ W h) s
theorem ahA (s:au):Ge s (DK W E s).2:=by
 unfold DK
 simp only
 split
 ·exact(EL W h s).trans (KR W _ _)
 ·exact(EL W h s).trans ((KR W _ _).trans (EL W h _))
theorem MS:∀ (k:Nat) (s:au),Ge s (notP W E k s).2:=by
 intro k
 induction k with
 | zero=>exact fun s=>Ge.refl s
 | succ k ih =>
  intro s
  unfold notP
  split
  ·exact(ja W _ s).trans ((dW _).trans ((ih _).trans (jb _)))
  ·exact ahA W h s
theorem MV (s:au):Ge s (Jb W E s).2:=xU W _ (MS W h _) s
end
theorem Iq (W:aV):∀ (f:Nat) (s:au),Ge s (ik W f s).2:=by
 intro f
 induction f with
 | zero=>exact fun s=>Ge.refl s
 | succ f ih=>exact fun s=>xU W _ (MV W ih) s
open Go.RowKit Go.Afx
theorem eH {gp gc gw g:Nat} {W:aV} {s':au} {x:Ex} {w w3 w4:World} {D:Nat} {A:Option Addr} {m c:Nat} {T:TypeId} {u0 u1 u2 u3 u4 u5:Value}
  (hx:aC (Fr w3) D w4 [.int .i64 x.op,.int .i64 x.n,.string x.s,.string x.name,.string x.src,.slice A m c] x) (hP:aW gp gc gw W s' w4) (hB:But (fV gp gc) w w4) (hk:af w4 g T #[u0,u1,u2,u3,u4,u5]) (hg1:w.heap.size≤g) (hg2:g<w3.heap.size) (hz:gp<w.heap.size∧gc<w.heap.size∧gw<w.heap.size) :
  af (uJ w4 g (.int .i64 x.op) (.int .i64 x.n) (.string x.s) (.string x.name) (.string x.src) (.slice A m c)) g T #[.int .i64 x.op,.int .i64 x.n,.string x.s,.string x.name,.string x.src,.slice A m c] ∧
  jv gp gc gw W s' x w (.returned (.agg #[.int .i64 x.op,.int .i64 x.n,.string x.s,.string x.name,.string x.src,.slice A m c])) (uJ w4 g (.int .i64 x.op) (.int .i64 x.n) (.string x.s) (.string x.name) (.string x.src) (.slice A m c)):=by
 have hb7:=fP w4 g (.int .i64 x.op) (.int .i64 x.n) (.string x.s) (.string x.name) (.string x.src) (.slice A m c)
 refine⟨fO _ _ _ _ _ _ hk,_,D,rfl,?_,hP.elsewhere hb7 (by omega),hB.trans hb7 (fun i hi=>.inr (by omega))⟩
 exact aC.conv (fun k (hk:w3.heap.size≤k)=>by show w.heap.size≤k;omega) (Kept.aN hb7 fun k (hk:w3.heap.size≤k) e=>by omega) D (Nat.le_refl _) hx
theorem jW {gp gc gw:Nat} {W:aV} {s:au} {w:World} (h:aW gp gc gw W s w) (s':au):okS (aS W s').1:=by
 unfold aS
 split
 ·unfold okS;exact Nat.zero_le _
 ·exact(h.okw _).2.1
theorem aa7 {gp gc gw:Nat} {W:aV} {s:au} {w:World} (h:aW gp gc gw W s w) (s':au):okI (mP W s').1:=by
 unfold mP
 split
 ·constructor<;>simp
 ·split
  ·exact(h.okw _).2.2.1
  ·constructor<;>simp
theorem xX (gp gc gw:Nat) (W:aV) (s:au) (w:World) (h:aW gp gc gw W s w) :
  Calls Tryz.prog 123 #[.pointer (some ⟨gp,0,none⟩)] w fun e w'=>e=.returned (.tuple #[.string (bF W s).1.1,.string (bF W s).1.2])∧aW gp gc gw W (bF W s).2 w'∧But (fV gp gc) w w':=by
 have Hn:=ae (fun s' w2 (hW:aW gp gc gw W s' w2)=>lD gp gc gw W s' w2 hW)
 have Hm:=ae (fun s' w2 (hW:aW gp gc gw W s' w2)=>dR gp gc gw w2.heap.size W s' (str [105,110]) w2 hW rfl)
 have Hh:=ae h
 clear h
 show Calls _ _ _ _ fun e w'=>e=.returned (.tuple #[.string (aS W s).1,.string (aS W (ak W [str [105,110]] (aS W s).2)).1])∧aW gp gc gw W (aS W (ak W [str [105,110]] (aS W s).2)).2 w'∧But (fV gp gc) w w'
 simp only[str] at Hm
 go_enter Tryz.func123,Tryz.ntmps123
 go_wp2_with (fail)
 refine(Hn.out _ _ Hh.out).mono ?_
 rintro e w2 ⟨rfl,hP,hB⟩
 have H2:=ae (And.intro hP hB)
 clear hP hB
 go_wp2_with (fail)
 refine(Hm.out _ _ H2.out.1).mono ?_
 rintro e w3 ⟨rfl,hP,hB⟩
 have H3:=ae (And.intro hP (H2.out.2.trans' hB))
 clear hP hB
 go_wp2_with (fail)
 refine(Hn.out _ _ H3.out.1).mono ?_
 rintro e w4 ⟨rfl,hP,hB⟩
 have H4:=ae (And.intro hP (H3.out.2.trans' hB))
 clear hP hB
 go_wp2
 go_ret2
 exact⟨rfl,H4.out.1,H4.out.2⟩
theorem ad9 (F:Nat→Prop) (w:World):aC F 1 w [.int .i64 3,.int .i64 1,.string ⟨#[]⟩,.string ⟨#[]⟩,.string ⟨#[]⟩,.slice none 0 0] (.mk 3 1 nil0 nil0 nil0 []):=by
 have h2:okS nil0:=by unfold okS;exact Nat.zero_le _
 exact⟨⟨by show (_:Int)≤3;omega,by show (3:Int)≤_;omega⟩,⟨by show (_:Int)≤1;omega,by show (1:Int)≤_;omega⟩,h2,h2,h2,none,0,0,rfl,ai.nil_ _ _ _ _⟩
theorem Jj (gp gc gw:Nat) (W:aV) (E:au→Ex×au) (m:Nat) (hE:fB gp gc gw W 126 E m):fB gp gc gw W 124 (bG W E) m:=by
 intro s w h hf
 have hz:=And.intro h.lt.1 (And.intro h.lt.2 h.wl)
 have hb1:=(Below.refl w.heap.size w).alloc (Nat.le_refl _) (.cells zero6 55)
 have hk1:=af.laid w 55 zero6
 have h1:=h.below hb1
 have hm:=gX gp gc gw W s (str [119,104,101,114,101]) _ h1
 have hno:=VI (W:=W) (s:=s) (t:=str [119,104,101,114,101])
 have hE2:=fun w2 hW=>hE (ay W (str [119,104,101,114,101]) s).2 w2 hW (hf.ge (ja W _ s))
 unfold bG
 generalize (ay W (str [119,104,101,114,101]) s)=r at *
 obtain⟨v,s2⟩:=r
 simp only[str] at hm
 have Hm:=ae hm
 have HE:=ae hE2
 have Hb1:=ae hb1
 have Hk1:=ae hk1
 have Hz:=ae hz
 clear hm hE2 hb1 hk1 hz h h1 hf hE
 cases v with
 | true =>
  clear hno
  show Calls _ _ _ _ (jv gp gc gw W (E s2).2 (E s2).1 w)
  simp only at HE
  generalize E s2=fin at *
  go_enter Tryz.func124,Tryz.ntmps124
  go_wp2_with (fail)
  refine Hm.out.mono ?_
  rintro e w3 ⟨rfl,hP,hB⟩
  have H3:=ae (And.intro hP hB)
  clear hP hB
  go_wp2_with (fail)
  refine(HE.out _ H3.out.1).mono ?_
  rintro e w4 ⟨row,D,rfl,hx,hP,hB⟩
  obtain⟨A2,m2,c2,rfl⟩:=bP hx
  have hB4:=H3.out.2.trans' hB
  have hk4:=ah Hk1.out hB4 (by have:=Hz.out;omega)
  obtain⟨x0,x1,x2,x3,x4,x5,xl⟩:=aH hk4
  have f4:=hk4.frozen
  have hs:=H3.out.2.size
  simp only[World.alloc,Array.size_push] at hs
  have H:=ae (eH hx hP ((But.of_below Hb1.out).trans' hB4) hk4 (Nat.le_refl _) (by omega) Hz.out)
  clear hx hP hB hk4 hB4 hs
  go_wp2
  rw[bJ]
  exact bodyPost_ret (fA Tryz.results124 rfl H.out.1 rfl) rfl H.out.2
 | false =>
  obtain rfl:=hno rfl
  show Calls _ _ _ _ (jv gp gc gw W s2 (.mk 3 1 nil0 nil0 nil0 []) w)
  go_enter Tryz.func124,Tryz.ntmps124
  go_wp2_with (fail)
  refine Hm.out.mono ?_
  rintro e w3 ⟨rfl,hP,hB⟩
  have hk4:=ah Hk1.out hB (by have:=Hz.out;omega)
  obtain⟨x0,x1,x2,x3,x4,x5,xl⟩:=aH hk4
  have f4:=hk4.frozen
  have hs:=hB.size
  simp only[World.alloc,Array.size_push] at hs
  have H:=ae (eH (x:=.mk 3 1 nil0 nil0 nil0 []) (w3:=w3) (ad9 (Fr w3) w3) hP ((But.of_below Hb1.out).trans' hB) hk4 (Nat.le_refl _) (by omega) Hz.out)
  clear hP hB hk4 hs
  go_wp2
  rw[bJ]
  exact bodyPost_ret (fA Tryz.results124 rfl H.out.1 rfl) rfl H.out.2
end Go.Proofs.YtjjfkhbajidmdaaGreatDoor
