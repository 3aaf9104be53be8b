/- Parts of this proof, one behind the other: RefT6, RefT7. -/
import Derived.Test.YtjjfkhbajidmdaaGreatDoorPb8
import Derived.Test.YtjjfkhbajidmdaaGreatDoorPb9
import Derived.Deep.DeepCutAuto
import Derived.Deep.CutBlock
import Derived.Outline
set_option maxRecDepth 1000000
set_option maxHeartbeats 40000000
namespace Go.Proofs.YtjjfkhbajidmdaaGreatDoor
open Go.RowKit Go.Afx
def lh (n:Nat):Code→Option Code
 | .loop c=>lh n c
 | .seq a b=>match lh n a with
  | some c=>some c
  | none=>lh n b
 | .block i c=>if i==n then some (.block i c) else lh n c
 | .scope c=>lh n c
 | .cond _ a b=>match lh n a with
  | some c=>some c
  | none=>lh n b
 | _=>none
noncomputable def Vb (n:Nat):Code:=((Tryz.f10.body.bind (lh n)).getD .skip)
theorem phE (F:Nat→Prop) (A:Option Addr) (n c:Nat) (xs:List Lf) (w wS:World) {x1 x2 x3 x4 x7 x8 x9 x10 x11 x12 J4 x14 x15 x16 x17 x18 x19 x20 yj xC vN x24 x25 Fh x27 x28 x29 x30 x31 x32 EC x34 ED Fj Fp x38 x39 x40 x41 vZ x43 wo Fq Fv Fz FB Gi Gj Gl Gm Gn x54 x55 Gp Gq Gs Gt Gu Gv Gw Gx Gy Gz x66 GG GH x69 GI GK GL GM GN GR GU GV GX GY x80 x81 x82 x83 x84 x85 x86 x87 x88 x89 x90 x91 GZ x93 FC x95 x96 FD x98 x99 x100 x101 x102 x103 x104 x105 nH x107 nI nJ nK nM x112 x113 x114 x115 l9 mf mg mi mr mD mF mG mJ nN nO nP nR nS nT nU nV nX nY nZ og oh oq ou oz oC oD qp qw qx qy qA qB qC x150 x151 x152 x153 qE qF qG x157 x158 x159 x160 qH qI qJ qK qL qM x167 x168 qN qO qP qQ qR qU qV qW qX qY qZ rq ru ry rC rD rE rF rG rH rJ sJ sK sN sO sQ sS sU sV sW sZ x200 Ar Au Aw Az AA AB AL AO AP AQ AU AV AX AY AZ Ba Bc Be Bf Bg Bh Bi Bj Bo Bv Bz BA BC BD BF BG BH BI BJ BK BL BM BN BO BQ BR BU BV BX BZ Cb Cc Ce Cf Ci Cj Cm CB CG CJ CO CP CQ CS CU CV CW CX CY CZ C9 yu yw yx yz yA yB yC yD yE yF yG yH yI yJ yK yL yM yN yO yP yQ yR yS yT wE:Value} {I:Act→World→Prop} {Q0:Exit→Act→World→Prop} (h1:ai F w 6 (yU F w) A n c xs) (hF:∀ k,F k→k<w.heap.size)
  (hS:pJ F w wS (NR F w) [] none 0 none 0 none 0 (.slice none 0 0) (.slice none 0 0) (.slice none 0 0)) (hI:∀ (y6 y7 y8 y9 y10 y11 y12 y24 y25 y26 y27 y28 y29 y30 y31 y32 y33 y34 y35 y36 y37 y38 y39 y40 Vd Ve Vf Vg y45 y46 y47 y48 y49 y50 y51 y52 y53 y54 y55 y56 y57 y58 y59 y60 y61 y62 y63 y64 y65 y66 y67 y68 y69 y70 y71 y72 y73 y74 y75 y76 y77 y78 y79 y80 y81 y82 y83 y84 y85 y86 y87 y88 y89 y90 y91 y92 y93 y94 y95 y96 y97 y98 y99 YH y101 y102 YI y104 YJ YK YL YM YN YO YP y112 y113 y114 y115 ajo ajp:Value) (W:World),YQ F w W→I ⟨#[.slice A n c,x1,x2,x3,x4,.pointer (some ⟨w.heap.size+1,0,none⟩),y6,y7,y8,y9,y10,y11,y12,J4,x14,x15,x16,x17,x18,x19,x20,yj,xC,vN,y24,y25,y26,y27,y28,y29,y30,y31,y32,y33,y34,y35,y36,y37,y38,y39,y40,Vd,Ve,Vf,Vg,y45,y46,y47,y48,y49,y50,y51,y52,y53,y54,y55,y56,y57,y58,y59,y60,y61,y62,y63,y64,y65,y66,y67,y68,y69,y70,y71,y72,y73,y74,y75,y76,y77,y78,y79,y80,y81,y82,y83,y84,y85,y86,y87,y88,y89,y90,y91,y92,y93,y94,y95,y96,y97,y98,y99,YH,y101,y102,YI,y104,YJ,YK,YL,YM,YN,YO,YP,y112,y113,y114,y115,ajo,ajp,mg,mi,mr,mD,mF,mG,mJ,nN,nO,nP,nR,nS,nT,nU,nV,nX,nY,nZ,og,oh,oq,ou,oz,oC,oD,qp,qw,qx,qy,qA,qB,qC,x150,x151,x152,x153,qE,qF,qG,x157,x158,x159,x160,qH,qI,qJ,qK,qL,qM,x167,x168,qN,qO,qP,qQ,qR,qU,qV,qW,qX,qY,qZ,rq,ru,ry,rC,rD,rE,rF,rG,rH,rJ,sJ,sK,sN,sO,sQ,sS,sU,sV,sW,sZ,x200,Ar,Au,Aw,Az,AA,AB,AL,AO,AP,AQ,AU,AV,AX,AY,AZ,Ba,Bc,Be,Bf,Bg,Bh,Bi,Bj,Bo,Bv,Bz,BA,BC,BD,BF,BG,BH,BI,BJ,BK,BL,BM,BN,BO,BQ,BR,BU,BV,BX,BZ,Cb,Cc,Ce,Cf,Ci,Cj,Cm,CB,CG,CJ,CO,CP,CQ,CS,CU,CV,CW,CX,CY,CZ,C9,yu,yw,yx,yz,yA,yB,yC,yD,yE,yF,yG,yH,yI,yJ,yK,yL,yM,yN,yO,yP,yQ,yR,yS,yT,wE],[]⟩ W) :
  Code.wp Tryz.prog (Vb 0) (Exit.then I (kM Q0)) ⟨#[.slice A n c,x1,x2,x3,x4,.pointer (some ⟨w.heap.size+1,0,none⟩),.int .i64 0,x7,x8,x9,x10,x11,x12,J4,x14,x15,x16,x17,x18,x19,x20,yj,xC,vN,x24,x25,Fh,x27,x28,x29,x30,x31,x32,EC,x34,ED,Fj,Fp,x38,x39,x40,x41,vZ,x43,wo,Fq,Fv,Fz,FB,Gi,Gj,Gl,Gm,Gn,x54,x55,Gp,Gq,Gs,Gt,Gu,Gv,Gw,Gx,Gy,Gz,x66,GG,GH,x69,GI,GK,GL,GM,GN,GR,GU,GV,GX,GY,x80,x81,x82,x83,x84,x85,x86,x87,x88,x89,x90,x91,GZ,x93,FC,x95,x96,FD,x98,x99,x100,x101,x102,x103,x104,x105,nH,x107,nI,nJ,nK,nM,x112,x113,x114,x115,l9,mf,mg,mi,mr,mD,mF,mG,mJ,nN,nO,nP,nR,nS,nT,nU,nV,nX,nY,nZ,og,oh,oq,ou,oz,oC,oD,qp,qw,qx,qy,qA,qB,qC,x150,x151,x152,x153,qE,qF,qG,x157,x158,x159,x160,qH,qI,qJ,qK,qL,qM,x167,x168,qN,qO,qP,qQ,qR,qU,qV,qW,qX,qY,qZ,rq,ru,ry,rC,rD,rE,rF,rG,rH,rJ,sJ,sK,sN,sO,sQ,sS,sU,sV,sW,sZ,x200,Ar,Au,Aw,Az,AA,AB,AL,AO,AP,AQ,AU,AV,AX,AY,AZ,Ba,Bc,Be,Bf,Bg,Bh,Bi,Bj,Bo,Bv,Bz,BA,BC,BD,BF,BG,BH,BI,BJ,BK,BL,BM,BN,BO,BQ,BR,BU,BV,BX,BZ,Cb,Cc,Ce,Cf,Ci,Cj,Cm,CB,CG,CJ,CO,CP,CQ,CS,CU,CV,CW,CX,CY,CZ,C9,yu,yw,yx,yz,yA,yB,yC,yD,yE,yF,yG,yH,yI,yJ,yK,yL,yM,yN,yO,yP,yQ,yR,yS,yT,wE],[]⟩ wS:=by
 have hn:=h1.gu
 conv=>arg 2;whnf
 have HI:=ae hI
 clear hI
 have H0:=ae hS
 clear hS
 go_wp2_with fail
 go_loopw [6] (fun i wr=>∃ (es:List Ex) (hue:Nat→Nat) (A0:Option Addr) (c0:Nat) (A1:Option Addr) (c1:Nat) (A2:Option Addr) (c2:Nat),es.length≤n∧i=.int .i64 es.length∧pJ F w wr hue es A0 c0 A1 c1 A2 c2 (.slice none 0 0) (.slice none 0 0) (.slice none 0 0)) (fun i _=>n-(intOf i).toNat)
 case atStart=>exact⟨[],_,_,_,_,_,_,_,Nat.zero_le _,rfl,H0.out⟩
 case round =>
  generalize wr=w1 at *
  obtain⟨es,hue,A0,c0,A1,c1,A2,c2,hle,rfl,hW⟩:=hrel
  have hfew:=hW.few
  generalize hk:es.length=k at *
  have Hk:=ae hk
  clear hk
  have HW:=ae hW
  clear hW
  by_cases hlt:k<n∧k<50
  ·obtain⟨hlt,h50⟩:=hlt
   have hd1:decide ((k:Int)<(n:Int))=true:=by simp;omega
   have hd2:decide ((k:Int)<50)=true:=by simp;omega
   obtain⟨b,o,r,x,rfl,hbl,FH,hx,hrl,hp,hc⟩:=(h1.below HW.out.low).get hlt
   obtain⟨o1,o2,o3,o4,o5,Ak,nk,ck,rfl,NS⟩:=hp
   have hc0:=hc 0 _ rfl;have hc1:=hc 1 _ rfl;have hc2:=hc 2 _ rfl;have hc3:=hc 3 _ rfl;have hc4:=hc 4 _ rfl;have hc5:=hc 5 _ rfl
   rw[Nat.add_zero] at hc0
   clear hc hx
   go_upto_region 9 with (fail)
   obtain⟨w2,Hw2⟩:∃ w2,Hid (w2=(w1.alloc (.cells #[.int .i64 x.op,.int .i64 x.n,.string x.s,.string x.name,.string x.src,.slice Ak nk ck] 70)).alloc (.cells #[.int .i64 x.op,.int .i64 x.n,.string x.s,.string x.name,.string x.src,.slice none 0 0] 55)):=⟨_,rfl⟩
   have hb2:Below w1.heap.size w1 w2:=by rw[Hw2.out];exact((Below.refl _ _).alloc (Nat.le_refl _) _).alloc (by simp) _
   have hz2:w2.heap.size=w1.heap.size+2:=by rw[Hw2.out];simp
   have hx2:af w2 w1.heap.size 70 #[.int .i64 x.op,.int .i64 x.n,.string x.s,.string x.name,.string x.src,.slice Ak nk ck]:=by rw[Hw2.out];exact(af.laid _ _ _).alloc _
   have he2:af w2 (w1.heap.size+1) 55 #[.int .i64 x.op,.int .i64 x.n,.string x.s,.string x.name,.string x.src,.slice none 0 0]:=by rw[Hw2.out];exact fZ (by simp) _ _
   have HE2:=ae (oG.start hue w1 k x he2)
   have hnk:=NS.gu
   have amx:=ae NS
   have hbw:=HW.out.low.size
   have hbt:=HW.out.box.lt
   have KD:=ae (fun W (hW:But (fun b=>b=w1.heap.size+1) w2 W)=>hx2.ag (hW.block _ hx2.lt (by omega)))
   have NT:=ae (fun W (hW:But (fun b=>b=w1.heap.size+1) w2 W)=>HW.out.box.ag ((hW.block _ (Nat.lt_of_lt_of_le hbt hb2.size) (by omega)).trans (hb2.block _ hbt)))
   have Ig:=ae (fun W (hW:But (fun b=>b=w1.heap.size+1) w2 W)=>((NS.below HW.out.low).below hb2).kept (Kept.aN hW (fun b hb=>by have:=hF b hb;omega)))
   have HR2:=ae (fun W (hW:But (fun b=>b=w1.heap.size+1) w2 W) b (hb:b<w1.heap.size)=>(hW.block b (Nat.lt_of_lt_of_le hb hb2.size) (by omega)).trans (hb2.block b hb))
   rw[Hk.out] at NT
   rw[← Hw2.out]
   clear hx2 he2 NS hc0 hc1 hc2 hc3 hc4 hc5
   go_loopw [9,10,11] (fun a9 a10 a11 wr=>Vh nk w2 (w1.heap.size+1) hue w1 k x a9 a10 a11 wr) (fun _ _ i _=>nk-(intOf i).toNat)
   case atStart=>exact⟨0,[],_,_,Nat.zero_le _,by omega,Nat.le_refl _,rfl,rfl,rfl,HE2.out⟩
   case round =>
    obtain⟨q,args,Aa,ca,hq,hq4,hal,rfl,rfl,rfl,hE⟩:=hrel
    by_cases hrd:(q<nk∧q<4)∧0<k
    ·obtain⟨⟨hqn,Sz⟩,hk1⟩:=hrd
     refine Code.wp_mono fM (agK F w w1 w2 wr hue es A0 A1 A2 c0 c1 c2 k x Ak nk ck q args Aa ca hF HW.out Hk.out h50 amx.out hk1 Hw2.out hE hqn Sz hal ?_)
     intro y9 y10 y11 y12 y49 y50 y51 y52 y53 y54 y55 y56 y57 y58 y59 y60 y61 y62 y63 y64 y65 y66 y67 y68 y69 y70 y71 y72 y73 y74 y75 y76 y77 y78 y79 y80 y81 y82 y83 y84 y85 y86 y87 y88 y89 y90 y91 y92 y93 W hr1 hr2
     clear hE
     have iG:=ae hr1
     subst hr2
     clear hr1
     go_roundw
     case rel=>exact⟨_,_,_,_,_,_,_,_,_,_,_,_,_,_,_,_,_,_,_,_,_,_,_,_,_,_,_,_,_,_,_,_,_,_,_,_,_,_,_,_,_,_,_,_,_,_,_,_,_,iG.out,rfl⟩
     case measure=>simp[intOf];omega
    have HE:=ae hE
    obtain⟨hsum,htop,hsb,htb,lK,lG⟩:∃ hsum htop:Int,(0≤hsum∧hsum≤4000)∧(1≤htop∧htop≤1001)∧Hid (sumT (args.map bZ)=hsum)∧Hid (iU (args.map bZ)=htop) :=
     ⟨_,_,NU (by omega),ng (fun t ht=>by obtain⟨a,_,rfl⟩:=List.mem_map.1 ht;exact kH a),rfl,rfl⟩
    obtain⟨hs0,hs1⟩:=hsb
    obtain⟨ht0,ht1⟩:=htb
    rw[lK.out,lG.out]
    generalize hm:args.length=m at *
    have Hm:=ae hm
    clear hm hE
    obtain⟨l0,l1,l2,l3,l4,l5,ll⟩:=dP (KD.out _ HE.out.but)
    obtain⟨t0,t1,t2,_,_,_,tl⟩:=dP (NT.out _ HE.out.but)
    by_cases hlq:q<nk∧q<4
    ·obtain⟨hqn,Sz⟩:=hlq
     have hd3:decide ((q:Int)<(nk:Int))=true:=by simp;omega
     have hd4:decide ((q:Int)<4)=true:=by simp;omega
     obtain⟨bk,ok,rk,v,rfl,hbk,_,_,_,hv,hcv⟩:=(Ig.out _ HE.out.but).get hqn
     obtain⟨rfl,okv⟩:=hv
     have hcv:=hcv 0 _ rfl
     rw[Nat.mul_one,Nat.add_zero] at hcv
     have hk0:k=0:=by
      rcases Nat.eq_zero_or_pos k with h|h
      ·exact h
      ·exact absurd ⟨⟨hqn,Sz⟩,h⟩ hrd
     clear hrd
     ·have SC:=ae hk0
      clear hk0
      go_wp2_with (go_at_call 24;refine(xE v k _ SC.out).mono ?_;rintro e w' ⟨rfl,rfl⟩)
      go_roundw
      case rel=>exact⟨q+1,args,Aa,ca,by omega,by omega,by have:=Hm.out;omega,by rw[lK.out],by rw[lG.out],by go_num,HE.out⟩
      case measure=>simp[intOf];omega
    ·clear hrd
     have hbl:=HE.out.below hb2 (by omega)
     obtain⟨SE,SG,Hte⟩:∃ SE SG,Hid (bZ (.mk x.op x.n x.s x.name x.src args)=(SE,SG)):=⟨_,_,rfl⟩
     have htl:=fun W=>EG (1+hsum) htop W
     have hte:=YR (op:=x.op) (n:=x.n) (s:=x.s) (name:=x.name) (src:=x.src) (HE.out.fits (by omega))
     rw[lK.out,lG.out,Hte.out] at hte
     rw[hte] at htl
     have KE:=ae htl
     have hok:=kH (.mk x.op x.n x.s x.name x.src args)
     rw[Hte.out] at hok
     obtain⟨k1,k2,k3,k4⟩:=hok
     clear htl hte
     have hPE:=HE.out.done hbl (by omega) o1 o2 o3 o4 o5
     rw[Hm.out] at hPE
     have HPE:=ae hPE
     have HB:=ae hbl
     have Wv:=ae (HW.out.later hbl)
     clear hPE hbl
     obtain⟨y0,y1,y2,y3,y4,y5,yl⟩:=dP HE.out.box
     rw[Hm.out] at y5
     obtain⟨⟨rows,hr0,uT⟩,hr1,hr2⟩:=Wv.out.tri
     rw[Hk.out] at hr0 hr1 hr2
     have SH:=ae uT
     have iV:=ae hr0
     have iG:=ae hr1
     have gm:=ae hr2
     have hbox:=Wv.out.box
     rw[Hk.out] at hbox
     have YS:=ae hbox
     have YT:=ae Wv.out.hb
     have hm1:k+1≤maxLen:=by unfold maxLen;omega
     have hm2:(k+1)*88≤140737488355328:=by omega
     have YU:(k+1)*8≤140737488355328:=by omega
     have hbz:=Wv.out.low.size
     clear uT hr0 hr1 hr2 hbox
     obtain⟨h0,Hh0⟩:∃ h0,Hid (aK hue w1 0=h0):=⟨_,rfl⟩
     rw[Hh0.out] at iV iG gm YT HPE SH Wv
     have hown1:=iV.out.own.alloc (.cells #[.int .i64 x.op,.int .i64 x.n,.string x.s,.string x.name,.string x.src,.slice Aa m ca] 55)
     have IE:=xG (w:=wr) (T:=55) [.int .i64 x.op,.int .i64 x.n,.string x.s,.string x.name,.string x.src,.slice Aa m ca] 6 rfl rfl
     have YV:=YS.out.lt
     have hne2:h0 (w.heap.size+1)≠2:=by rw[YT.out];omega
     have YW:=ae hne2
     clear hne2
     go_wp2_with (first
      | (go_at_call 11;refine(KE.out _).mono ?_;rintro e w' ⟨rfl,rfl⟩)
      | (at_builtin;(refine gy (s:=.tmp 101) (x:=.tmp 103) rfl rfl agL rfl hown1 rfl IE (by simp) (by simp[Value.oneCell']) hm1 hm2 ?_ ?_;(simp;omega);intro B0 d0 W2 agM SI fr2);go_loud (have zz2:=SI.size;simp at zz2;have G1:=ae (eQ.grow (bt:=w.heap.size+1) (j:=0) (u:=.slice B0 (k+1) d0) iV.out agM rfl (by simp) SI fr2 YV YW.out);have X1:=ae (qg (j:=0) YS.out iV.out.hue YW.out SI (.slice B0 (k+1) d0));obtain⟨x10,x11,x12,J4,x14,x15,x1l⟩:=dP X1.out.1;have x1f:=X1.out.1.frozen;have SK:=ae (Dc (i:=2) YT.out YV);have HR1:=ae (iG.out.keep G1.out.2 (iq YT.out (by omega) (by omega)) (aT (i:=2)));have hown2:=HR1.out.own.alloc (.cells #[.int .i64 SE] 3);have YX:=xG (w:=W2.setCell ⟨w.heap.size+1,0,none⟩ (.slice B0 (k+1) d0)) (T:=3) (g:=W2.heap.size) [.int .i64 SE] 1 (by simp[World.setCell]) rfl))
      | (at_builtin;(refine gy (s:=.tmp 107) (x:=.tmp 109) rfl rfl Vj rfl hown2 rfl YX (by simp) (by simp[Value.oneCell']) hm1 YU ?_ ?_;(simp[World.setCell];omega);intro B1 d1 W5 agN SL fr5);go_loud (have zz5:=SL.size;simp[World.setCell] at zz5;have NV:w.heap.size+1<(W2.setCell ⟨w.heap.size+1,0,none⟩ (.slice B0 (k+1) d0)).heap.size:=(by simp[World.setCell];omega);have YY:=xH SK.out 3 (by omega);have G2:=ae (eQ.grow (bt:=w.heap.size+1) (j:=1) (u:=.slice B1 (k+1) d1) HR1.out agN rfl (by simp) SL fr5 NV YY);have X2:=ae (qg (j:=1) X1.out.2 HR1.out.hue YY SL (.slice B1 (k+1) d1));obtain⟨x20,yj,xC,vN,x24,x25,x2l⟩:=dP X2.out.1;have x2f:=X2.out.1.frozen;have Hq2:=ae (Dc (i:=3) SK.out NV);have HR2:=ae ((gm.out.keep G1.out.2 (iq YT.out (by omega) (by omega)) (aT (i:=2))).keep G2.out.2 (iq SK.out (by omega) (by omega)) (aT (i:=3)));have hown3:=HR2.out.own.alloc (.cells #[.int .i64 SG] 3);have YZ:=xG (w:=W5.setCell ⟨w.heap.size+1,1,none⟩ (.slice B1 (k+1) d1)) (T:=3) (g:=W5.heap.size) [.int .i64 SG] 1 (by simp[World.setCell]) rfl))
      | (at_builtin;(refine gy (s:=.tmp 113) (x:=.tmp 115) rfl rfl Vj rfl hown3 rfl YZ (by simp) (by simp[Value.oneCell']) hm1 YU ?_ ?_;(simp[World.setCell];omega);intro B2 d2 W8 agO Y0 fr8);go_loud (have Y1:w.heap.size+1<(W5.setCell ⟨w.heap.size+1,1,none⟩ (.slice B1 (k+1) d1)).heap.size:=(by simp[World.setCell];omega);have Y2:=xH Hq2.out 4 (by omega);have G3:=ae (eQ.grow (bt:=w.heap.size+1) (j:=2) (u:=.slice B2 (k+1) d2) HR2.out agO rfl (by simp) Y0 fr8 Y1 Y2);have X3:=ae (qg (j:=2) X2.out.2 HR2.out.hue Y2 Y0 (.slice B2 (k+1) d2));obtain⟨x30,x31,x32,EC,x34,ED,x3l⟩:=dP X3.out.1;have x3f:=X3.out.1.frozen)))
     all_goals
      have hl:(es++[Ex.mk x.op x.n x.s x.name x.src args]).length=k+1:=by rw[List.length_append,Hk.out];rfl
      exact⟨⟨es++[.mk x.op x.n x.s x.name x.src args],_,B0,d0,B1,d1,B2,d2,by rw[hl];omega,by rw[hl];go_num,pJ.add Wv.out Hk.out h50 Hte.out SH.out HPE.out G1.out.2 G2.out.2 G3.out.2 G1.out.1 G2.out.1 G3.out.1 X3.out.2⟩,by simp[intOf];omega⟩
  ·go_wp2
   all_goals
    exact HI.out _ _ _ _ _ _ _ _ _ _ _ _ _ _ _ _ _ _ _ _ _ _ _ _ _ _ _ _ _ _ _ _ _ _ _ _ _ _ _ _ _ _ _ _ _ _ _ _ _ _ _ _ _ _ _ _ _ _ _ _ _ _ _ _ _ _ _ _ _ _ _ _ _ _ _ _ _ _ _ _ _ _ _ _ _ _ _ _ _ _ _ _ _ _ _ _ _ _ _ _ _ _ (pJ.end_ HW.out)
def amE (w2:World) (g:Nat) (hue:Nat→Nat) (w1:World) (k:Nat) (x:Kn) (Ac:Option Addr) (nc cc:Nat) (u16 u17:Value) (wr:World):Prop :=
 ∃ (exprs:List Ex) (Ae:Option Addr) (ce:Nat),exprs.length≤10∧u16=.int .i64 (1+sumT (exprs.map bZ))∧u17=.int .i64 (iU (exprs.map bZ))∧iW w2 wr g hue w1 k x Ac nc cc exprs [] [] Ae ce none 0 none 0
def af0 (F:Nat→Prop) (w wr:World):Prop:=∃ hue es ss A0 c0 A1 c1 A2 c2 A3 c3 A4 c4 A5 c5,pK F w wr hue es ss A0 c0 A1 c1 A2 c2 A3 c3 A4 c4 A5 c5
theorem phS (F:Nat→Prop) (A':Option Addr) (n' c':Nat) (ys:List Kn) (w wS:World) (hue:Nat→Nat) (es:List Ex) (A0:Option Addr) (c0:Nat) (A1:Option Addr) (c1:Nat) (A2:Option Addr) (c2:Nat) {x0 x2 x3 x4 x6 x7 x8 x9 x10 x11 x12 x14 x15 x16 x17 x18 x19 x20 yj xC vN x24 x25 Fh x27 x28 x29 x30 x31 x32 EC x34 ED Fj Fp x38 x39 x40 x41 vZ x43 wo Fq Fv Fz FB Gi Gj Gl Gm Gn x54 x55 Gp Gq Gs Gt Gu Gv Gw Gx Gy Gz x66 GG GH x69 GI GK GL GM GN GR GU GV GX GY x80 x81 x82 x83 x84 x85 x86 x87 x88 x89 x90 x91 GZ x93 FC x95 x96 FD x98 x99 x100 x101 x102 x103 x104 x105 nH x107 nI nJ nK nM x112 x113 x114 x115 l9 mf mg mi mr mD mF mG mJ nN nO nP nR nS nT nU nV nX nY nZ og oh oq ou oz oC oD qp qw qx qy qA qB qC x150 x151 x152 x153 qE qF qG x157 x158 x159 x160 qH qI qJ qK qL qM x167 x168 qN qO qP qQ qR qU qV qW qX qY qZ rq ru ry rC rD rE rF rG rH rJ sJ sK sN sO sQ sS sU sV sW sZ x200 Ar Au Aw Az AA AB AL AO AP AQ AU AV AX AY AZ Ba Bc Be Bf Bg Bh Bi Bj Bo Bv Bz BA BC BD BF BG BH BI BJ BK BL BM BN BO BQ BR BU BV BX BZ Cb Cc Ce Cf Ci Cj Cm CB CG CJ CO CP CQ CS CU CV CW CX CY CZ C9 yu yw yx yz yA yB yC yD yE yF yG yH yI yJ yK yL yM yN yO yP yQ yR yS yT wE:Value} {I:Act→World→Prop} {Q0:Exit→Act→World→Prop} (h2:ai F w 8 (yV F w) A' n' c' ys) (hF:∀ k,F k→k<w.heap.size)
  (hS:pK F w wS hue es [] A0 c0 A1 c1 A2 c2 none 0 none 0 none 0) (hI:∀ (y13 y14 y15 Vk Vl y18 y19 y20 y21 y22 ajs ajt aju ajv ajw ajx ajy Y3 Y4 Y5 Y6 Y7 Y8 Y9 Za Zb Zc Zd Ze Zf Zg Zh Zi Zj Zk Zl Zm Zn Zo Zp Zq Zr y150 y151 y152 y153 Zt Zu Zv y157 y158 y159 y160 Zw Zx Zy Zz ZA ZB y167 y168 ZC ZE ZF ZG ZH ZI ZJ ZK ZL ZM ZN ZO ZP ZQ ZR ZT ZU ZV ZW ZX ZY NW NY NZ N7 N8 N9 Oa Ob Oc Oe Og Oh Oi Oj Ol Om Oo Oq Ot Ou Ov Ox Oy Oz OA OB OC OD OE OG OH OI OJ OL OM OO OQ OT OU OV OW OX OY OZ O0 O1 O3 O4 O5 O6 O7 O8 O9 Pg Ph Pj Pm Pn Po Pq Pv Px Py Pz PD PG PH PI PK PL PM PN PO PQ PR PT PU ajz ajA ajB ajC ajD ajE ajF ajG ajH ajI ajJ ajK ajL ajM ajN ajO ajP ajQ ajR ajS ajT ajU ajV ajW:Value) (W:World),af0 F w W→I ⟨#[x0,.slice A' n' c',x2,x3,x4,.pointer (some ⟨w.heap.size+1,0,none⟩),x6,x7,x8,x9,x10,x11,x12,y13,y14,y15,Vk,Vl,y18,y19,y20,y21,y22,vN,x24,x25,Fh,x27,x28,x29,x30,x31,x32,EC,x34,ED,Fj,Fp,x38,x39,x40,x41,vZ,x43,wo,Fq,Fv,Fz,FB,Gi,Gj,Gl,Gm,Gn,x54,x55,Gp,Gq,Gs,Gt,Gu,Gv,Gw,Gx,Gy,Gz,x66,GG,GH,x69,GI,GK,GL,GM,GN,GR,GU,GV,GX,GY,x80,x81,x82,x83,x84,x85,x86,x87,x88,x89,x90,x91,GZ,x93,FC,x95,x96,FD,x98,x99,x100,x101,x102,x103,x104,x105,nH,x107,nI,nJ,nK,nM,x112,x113,x114,x115,l9,mf,ajs,ajt,aju,ajv,ajw,ajx,ajy,Y3,Y4,Y5,Y6,Y7,Y8,Y9,Za,Zb,Zc,Zd,Ze,Zf,Zg,Zh,Zi,Zj,Zk,Zl,Zm,Zn,Zo,Zp,Zq,Zr,y150,y151,y152,y153,Zt,Zu,Zv,y157,y158,y159,y160,Zw,Zx,Zy,Zz,ZA,ZB,y167,y168,ZC,ZE,ZF,ZG,ZH,ZI,ZJ,ZK,ZL,ZM,ZN,ZO,ZP,ZQ,ZR,ZT,ZU,ZV,ZW,ZX,ZY,NW,NY,NZ,N7,N8,N9,Oa,Ob,Oc,Oe,Og,Oh,Oi,Oj,Ol,Om,Oo,Oq,Ot,Ou,Ov,Ox,Oy,Oz,OA,OB,OC,OD,OE,OG,OH,OI,OJ,OL,OM,OO,OQ,OT,OU,OV,OW,OX,OY,OZ,O0,O1,O3,O4,O5,O6,O7,O8,O9,Pg,Ph,Pj,Pm,Pn,Po,Pq,Pv,Px,Py,Pz,PD,PG,PH,PI,PK,PL,PM,PN,PO,PQ,PR,PT,PU,ajz,ajA,ajB,ajC,ajD,ajE,ajF,ajG,ajH,ajI,ajJ,ajK,ajL,ajM,ajN,ajO,ajP,ajQ,ajR,ajS,ajT,ajU,ajV,ajW,wE],[]⟩ W) :
  Code.wp Tryz.prog (Vb 4) (Exit.then I (kM Q0)) ⟨#[x0,.slice A' n' c',x2,x3,x4,.pointer (some ⟨w.heap.size+1,0,none⟩),x6,x7,x8,x9,x10,x11,x12,.int .i64 0,x14,x15,x16,x17,x18,x19,x20,yj,xC,vN,x24,x25,Fh,x27,x28,x29,x30,x31,x32,EC,x34,ED,Fj,Fp,x38,x39,x40,x41,vZ,x43,wo,Fq,Fv,Fz,FB,Gi,Gj,Gl,Gm,Gn,x54,x55,Gp,Gq,Gs,Gt,Gu,Gv,Gw,Gx,Gy,Gz,x66,GG,GH,x69,GI,GK,GL,GM,GN,GR,GU,GV,GX,GY,x80,x81,x82,x83,x84,x85,x86,x87,x88,x89,x90,x91,GZ,x93,FC,x95,x96,FD,x98,x99,x100,x101,x102,x103,x104,x105,nH,x107,nI,nJ,nK,nM,x112,x113,x114,x115,l9,mf,mg,mi,mr,mD,mF,mG,mJ,nN,nO,nP,nR,nS,nT,nU,nV,nX,nY,nZ,og,oh,oq,ou,oz,oC,oD,qp,qw,qx,qy,qA,qB,qC,x150,x151,x152,x153,qE,qF,qG,x157,x158,x159,x160,qH,qI,qJ,qK,qL,qM,x167,x168,qN,qO,qP,qQ,qR,qU,qV,qW,qX,qY,qZ,rq,ru,ry,rC,rD,rE,rF,rG,rH,rJ,sJ,sK,sN,sO,sQ,sS,sU,sV,sW,sZ,x200,Ar,Au,Aw,Az,AA,AB,AL,AO,AP,AQ,AU,AV,AX,AY,AZ,Ba,Bc,Be,Bf,Bg,Bh,Bi,Bj,Bo,Bv,Bz,BA,BC,BD,BF,BG,BH,BI,BJ,BK,BL,BM,BN,BO,BQ,BR,BU,BV,BX,BZ,Cb,Cc,Ce,Cf,Ci,Cj,Cm,CB,CG,CJ,CO,CP,CQ,CS,CU,CV,CW,CX,CY,CZ,C9,yu,yw,yx,yz,yA,yB,yC,yD,yE,yF,yG,yH,yI,yJ,yK,yL,yM,yN,yO,yP,yQ,yR,yS,yT,wE],[]⟩ wS:=by
 have hn':=h2.gu
 have HS0:=ae hS
 clear hS
 have HI:=ae hI
 clear hI
 generalize hne:es.length=ne at *
 have JZ:=ae hne
 clear hne
 have ZZ:ne≤50:=by rw[← JZ.out];exact HS0.out.few
 conv=>arg 2;whnf
 go_wp2_with fail
 go_loopw [13] (fun i wr=>∃ (hue:Nat→Nat) (ss:List St) (A3:Option Addr) (c3:Nat) (A4:Option Addr) (c4:Nat) (A5:Option Addr) (c5:Nat),ss.length≤n'∧i=.int .i64 ss.length∧pK F w wr hue es ss A0 c0 A1 c1 A2 c2 A3 c3 A4 c4 A5 c5) (fun i _=>n'-(intOf i).toNat)
 case atStart=>exact⟨_,[],_,_,_,_,_,_,Nat.zero_le _,rfl,HS0.out⟩
 case round =>
  clear HS0 hue
  generalize wr=w1 at *
  obtain⟨hue,ss,A3,c3,A4,c4,A5,c5,hle,rfl,hW⟩:=hrel
  have hfew:=hW.adm
  generalize hk:ss.length=k at *
  have Hk:=ae hk
  clear hk
  have HW:=ae hW
  clear hW
  by_cases hlt:k<n'∧k<50
  ·obtain⟨hlt,h50⟩:=hlt
   have hd1:decide ((k:Int)<(n':Int))=true:=by simp;omega
   have hd2:decide ((k:Int)<50)=true:=by simp;omega
   obtain⟨b,o,r,x,rfl,hbl,FH,hx,hrl,hp,hc⟩:=(h2.below HW.out.low).get hlt
   obtain⟨o1,o2,o3,o4,Ac,nc,cc,Ax,nx,cx,Ab,nb,cb,Al,nl,cl,rfl,G5,hkx,hkb,hkl⟩:=hp
   have hc0:=hc 0 _ rfl;have hc1:=hc 1 _ rfl;have hc2:=hc 2 _ rfl;have hc3:=hc 3 _ rfl;have hc4:=hc 4 _ rfl;have hc5:=hc 5 _ rfl;have hc6:=hc 6 _ rfl;have hc7:=hc 7 _ rfl
   rw[Nat.add_zero] at hc0
   clear hc hx
   go_upto_block 6 with (fail)
   obtain⟨w2,Hw2⟩:∃ w2,Hid (w2=(w1.alloc (.cells #[.int .i64 x.op,.string x.name,.string x.src,.int .i64 x.n,.slice Ac nc cc,.slice Ax nx cx,.slice Ab nb cb,.slice Al nl cl] 72)).alloc (.cells #[.int .i64 x.op,.string x.name,.string x.src,.int .i64 x.n,.slice Ac nc cc,.slice none 0 0,.slice none 0 0,.slice none 0 0] 49)):=⟨_,rfl⟩
   have hb2:Below w1.heap.size w1 w2:=by rw[Hw2.out];exact((Below.refl _ _).alloc (Nat.le_refl _) _).alloc (by simp) _
   have hz2:w2.heap.size=w1.heap.size+2:=by rw[Hw2.out];simp
   have hx2:af w2 w1.heap.size 72 #[.int .i64 x.op,.string x.name,.string x.src,.int .i64 x.n,.slice Ac nc cc,.slice Ax nx cx,.slice Ab nb cb,.slice Al nl cl]:=by rw[Hw2.out];exact(af.laid _ _ _).alloc _
   have he2:af w2 (w1.heap.size+1) 49 #[.int .i64 x.op,.string x.name,.string x.src,.int .i64 x.n,.slice Ac nc cc,.slice none 0 0,.slice none 0 0,.slice none 0 0]:=by rw[Hw2.out];exact fZ (by simp) _ _
   have HE2:=ae (iW.start hue w1 k x Ac nc cc he2)
   have hnx:=hkx.gu
   have hnb:=hkb.gu
   have hnl:=hkl.gu
   have hbw:=HW.out.low.size
   have hbt:=HW.out.box.lt
   have KD:=ae (fun W (hW:But (fun b=>b=w1.heap.size+1) w2 W)=>hx2.ag (hW.block _ hx2.lt (by omega)))
   have NT:=ae (fun W (hW:But (fun b=>b=w1.heap.size+1) w2 W)=>HW.out.box.ag ((hW.block _ (Nat.lt_of_lt_of_le hbt hb2.size) (by omega)).trans (hb2.block _ hbt)))
   have Kp:=ae (fun W (hW:But (fun b=>b=w1.heap.size+1) w2 W)=>(Kept.of_below hb2).trans (Kept.aN (F:=F) hW (fun b hb=>by have:=hF b hb;omega)))
   have HR2:=ae (fun W (hW:But (fun b=>b=w1.heap.size+1) w2 W) b (hb:b<w1.heap.size)=>(hW.block b (Nat.lt_of_lt_of_le hb hb2.size) (by omega)).trans (hb2.block b hb))
   have Wx:=ae (hkx.below HW.out.low)
   have Z4:=ae (hkb.below HW.out.low)
   have Hkl:=ae (hkl.below HW.out.low)
   have agR:=ae (G5.below HW.out.low)
   rw[Hk.out,JZ.out] at NT
   rw[← Hw2.out]
   clear hx2 he2 hkx hkb hkl G5 hc0 hc1 hc2 hc3 hc4 hc5 hc6 hc7
   go_cut [16,17] from 143 to 189 (fun u16 u17 wr=>amE w2 (w1.heap.size+1) hue w1 k x Ac nc cc u16 u17 wr)
   case first =>
    go_wp2_with fail
    go_loopw [16,17,18] (fun a9 a10 a11 wr=>Vm w2 (w1.heap.size+1) hue w1 k x Ac nc cc nx a9 a10 a11 wr) (fun _ _ i _=>nx-(intOf i).toNat)
    case atStart=>exact⟨0,[],_,_,Nat.zero_le _,by omega,Nat.le_refl _,rfl,rfl,rfl,HE2.out⟩
    case round =>
     obtain⟨q,args,Aa,ca,hq,hq4,hal,rfl,rfl,rfl,hE⟩:=hrel
     by_cases hlq:q<nx∧q<10
     ·obtain⟨hqn,Sz⟩:=hlq
      refine Code.wp_mono fM (agS F w w1 w2 wr hue es ss A0 A1 A2 A3 A4 A5 c0 c1 c2 c3 c4 c5 k ne x Ac Ax Ab Al nc cc nx cx nb cb nl cl q args Aa ca hF HW.out Hk.out JZ.out Wx.out Z4.out Hkl.out Hw2.out hE hqn Sz hal ?_)
      intro Vk Vl y18 y19 Zl Zm Zn Zo Zp Zq Zr y150 y151 y152 y153 Zt Zu Zv y157 y158 y159 y160 Zw Zx Zy Zz ZA ZB y167 y168 ZC ZE ZF ZG ZH ZI ZJ ZK ZL ZM ZN ZO ZP ZQ ZR ZT ZU ZV ZW ZX ZY W hr1 hr2
      clear hE
      have iG:=ae hr1
      subst hr2
      clear hr1
      go_roundw
      case rel=>exact⟨_,_,_,_,_,_,_,_,_,_,_,_,_,_,_,_,_,_,_,_,_,_,_,_,_,_,_,_,_,_,_,_,_,_,_,_,_,_,_,_,_,_,_,_,_,_,_,_,_,_,_,iG.out,rfl⟩
      case measure=>simp[intOf];omega
     ·have HE:=ae hE
      obtain⟨hsum,htop,lK,lG⟩:∃ hsum htop:Int,Hid (sumT (args.map bZ)=hsum)∧Hid (iU (args.map bZ)=htop):=⟨_,_,rfl,rfl⟩
      rw[lK.out,lG.out]
      clear hE
      obtain⟨l0,l1,l2,l3,l4,l5,l6,l7,ll⟩:=pU (KD.out _ HE.out.but)
      go_wp2
      all_goals
       go_meet
       rw[← lK.out,← lG.out]
       exact⟨args,Aa,ca,by omega,rfl,rfl,HE.out⟩
   case rest =>
    obtain⟨exprs,Ae,ce,amH,rfl,rfl,hE⟩:=hcut
    have HE0:=ae hE
    clear hE HE2
    obtain⟨sE,tE,ajX,ajY,HsE,HtE⟩:∃ sE tE:Int,(0≤sE∧sE≤10000)∧(1≤tE∧tE≤1001)∧Hid (sumT (exprs.map bZ)=sE)∧Hid (iU (exprs.map bZ)=tE) :=
     ⟨_,_,Vo amH,ng (fun t ht=>by obtain⟨a,_,rfl⟩:=List.mem_map.1 ht;exact kH a),rfl,rfl⟩
    rw[HsE.out,HtE.out]
    go_wp2
    go_loopw [16,17,20] (fun a9 a10 a11 wr=>L8 w2 (w1.heap.size+1) hue w1 k x Ac nc cc exprs Ae ce sE tE a9 a10 a11 wr) (fun _ _ i _=>10-(intOf i).toNat)
    case atStart=>exact⟨0,[],[],_,_,_,_,by omega,Nat.le_refl _,congrArg (Value.int .i64) (by simp[sumT]),congrArg (Value.int .i64) (by simp[iU];omega),rfl,HE0.out⟩
    case round =>
     obtain⟨q,body,els,Bb,db,Bl,dl,hq10,hal,rfl,rfl,rfl,hE⟩:=hrel
     by_cases hlq:(q:Int)<wrap64 ((nb:Int)+(nl:Int))∧q<10
     ·obtain⟨YA,Vp⟩:=hlq
      by_cases hqb:q<nb
      ·refine Code.wp_mono fM (adn F w w1 w2 wr hue es ss A0 A1 A2 A3 A4 A5 c0 c1 c2 c3 c4 c5 k ne x Ac Ax Ab Al nc cc nx cx nb cb nl cl q exprs body els Ae ce Bb db Bl dl sE tE hF HW.out Hk.out JZ.out h50 Wx.out Z4.out Hkl.out Hw2.out hE Vp YA hqb hal ajX ajY ?_)
       clear YA hqb hE
       intro Vk Vl y20 y21 y22 NW NY NZ N7 N8 N9 Oa Ob Oc Oe Og Oh Oi Oj Ol Om Oo Oq Ot Ou Ov Ox Oy Oz OA OB OC OD OE OG OH OI OJ OL OM OO OQ OT OU OV OW OX OY OZ O0 O1 O3 O4 O5 O6 O7 O8 O9 Pg Ph Pj Pm Pn Po Pq Pv Px Py Pz PD PG PH PI PK PL PM PN PO PQ PR PT PU W hr1 hr2
       have iG:=ae hr1
       subst hr2
       clear hr1
       go_roundw
       case rel=>exact⟨_,_,_,_,_,_,_,_,_,_,_,_,_,_,_,_,_,_,_,_,_,_,_,_,_,_,_,_,_,_,_,_,_,_,_,_,_,_,_,_,_,_,_,_,_,_,_,_,_,_,_,_,_,_,_,_,_,_,_,_,_,_,_,_,_,_,_,_,_,_,_,_,_,_,_,_,_,_,_,_,_,_,iG.out,rfl⟩
       case measure=>simp[intOf];omega
      ·refine Code.wp_mono fM (ado F w w1 w2 wr hue es ss A0 A1 A2 A3 A4 A5 c0 c1 c2 c3 c4 c5 k ne x Ac Ax Ab Al nc cc nx cx nb cb nl cl q exprs body els Ae ce Bb db Bl dl sE tE hF HW.out Hk.out JZ.out h50 Wx.out Z4.out Hkl.out Hw2.out hE Vp YA hqb hal ajX ajY ?_)
       clear YA hqb hE
       intro Vk Vl y20 y21 y22 NW NY NZ N7 N8 N9 Oa Ob Oc Oe Og Oh Oi Oj Ol Om Oo Oq Ot Ou Ov Ox Oy Oz OA OB OC OD OE OG OH OI OJ OL OM OO OQ OT OU OV OW OX OY OZ O0 O1 O3 O4 O5 O6 O7 O8 O9 Pg Ph Pj Pm Pn Po Pq Pv Px Py Pz PD PG PH PI PK PL PM PN PO PQ PR PT PU W hr1 hr2
       have iG:=ae hr1
       subst hr2
       clear hr1
       go_roundw
       case rel=>exact⟨_,_,_,_,_,_,_,_,_,_,_,_,_,_,_,_,_,_,_,_,_,_,_,_,_,_,_,_,_,_,_,_,_,_,_,_,_,_,_,_,_,_,_,_,_,_,_,_,_,_,_,_,_,_,_,_,_,_,_,_,_,_,_,_,_,_,_,_,_,_,_,_,_,_,_,_,_,_,_,_,_,_,iG.out,rfl⟩
       case measure=>simp[intOf];omega
     ·obtain⟨N,hN⟩:∃ N:Int,wrap64 ((nb:Int)+(nl:Int))=N:=⟨_,rfl⟩
      rw[hN] at hlq
      have HE:=ae hE
      have hbb:=uy (args:=body) (by omega)
      have L9:=uy (args:=els) (by omega)
      have htb:=ng (l:=body.map aX) (fun t ht=>by obtain⟨a,_,rfl⟩:=List.mem_map.1 ht;exact iy a)
      have Z5:=ng (l:=els.map aX) (fun t ht=>by obtain⟨a,_,rfl⟩:=List.mem_map.1 ht;exact iy a)
      obtain⟨hsum,htop,hsb,Z7,lK,lG⟩:∃ hsum htop:Int,(0≤hsum∧hsum≤30000)∧(1≤htop∧htop≤1001)∧Hid (sE+sumT (body.map aX)+sumT (els.map aX)=hsum)∧Hid (max (max tE (iU (body.map aX))) (iU (els.map aX))=htop) :=
       ⟨_,_,by omega,by omega,rfl,rfl⟩
      clear hbb L9 htb Z5
      obtain⟨hs0,hs1⟩:=hsb
      obtain⟨ht0,ht1⟩:=Z7
      rw[lK.out,lG.out]
      generalize hmb:body.length=mB at *
      have PV:=ae hmb
      generalize hml:els.length=mL at *
      have Z8:=ae hml
      clear hmb hml hE
      obtain⟨l0,l1,l2,l3,l4,l5,l6,l7,ll⟩:=pU (KD.out _ HE.out.but)
      obtain⟨t0,t1,t2,t3,t4,t5,tl⟩:=dP (NT.out _ HE.out.but)
      have hbl:=HE.out.below hb2 (by omega)
      obtain⟨SE,SG,Hte⟩:∃ SE SG,Hid (aX (.mk x.op x.name x.src x.n x.cols exprs body els)=(SE,SG)):=⟨_,_,rfl⟩
      have htl:=fun W=>EG (1+hsum) htop W
      have hte:=HE.out.tell (by omega)
      rw[HsE.out,HtE.out,lK.out,lG.out,Hte.out] at hte
      rw[hte] at htl
      have KE:=ae htl
      have hok:=iy (.mk x.op x.name x.src x.n x.cols exprs body els)
      rw[Hte.out] at hok
      obtain⟨k1,k2,k3,k4⟩:=hok
      clear htl hte
      have hPS:=HE.out.done hbl (by omega) agR.out (fun b hb=>(HW.out.old b (hF b hb)).1 hb) o1 o2 o3 o4
      obtain⟨y0,y1,y2,y3,y4,y5,y6,y7,yl⟩:=pU HE.out.box
      generalize hlE:exprs.length=mE at *
      rw[PV.out,Z8.out] at hPS
      rw[PV.out] at y6
      rw[Z8.out] at y7
      have HPS:=ae hPS
      have HB:=ae hbl
      have Wv:=ae (HW.out.later hbl)
      clear hPS hbl hlE
      obtain⟨⟨rows,hr0,uT⟩,hr1,hr2⟩:=Wv.out.tri
      rw[Hk.out] at hr0 hr1 hr2
      have SH:=ae uT
      have iV:=ae hr0
      have iG:=ae hr1
      have gm:=ae hr2
      have hbox:=Wv.out.box
      rw[Hk.out] at hbox
      have YS:=ae hbox
      have YT:=ae Wv.out.hb
      have hm1:k+1≤maxLen:=by unfold maxLen;omega
      have hm2:(k+1)*144≤140737488355328:=by omega
      have YU:(k+1)*8≤140737488355328:=by omega
      have hbz:=Wv.out.low.size
      clear uT hr0 hr1 hr2 hbox
      obtain⟨h0,Hh0⟩:∃ h0,Hid (aK hue w1 0=h0):=⟨_,rfl⟩
      rw[Hh0.out] at iV iG gm YT HPS SH Wv
      have hown1:=iV.out.own.alloc (.cells #[.int .i64 x.op,.string x.name,.string x.src,.int .i64 x.n,.slice Ac nc cc,.slice Ae mE ce,.slice Bb mB db,.slice Bl mL dl] 49)
      have IE:=xG (w:=wr) (T:=49) [.int .i64 x.op,.string x.name,.string x.src,.int .i64 x.n,.slice Ac nc cc,.slice Ae mE ce,.slice Bb mB db,.slice Bl mL dl] 8 rfl rfl
      have YV:=YS.out.lt
      have hne2:h0 (w.heap.size+1)≠2:=by rw[YT.out];omega
      have YW:=ae hne2
      clear hne2
      go_wp2_with (first
      | (go_at_call 11;refine(KE.out _).mono ?_;rintro e w' ⟨rfl,rfl⟩)
      | (at_builtin;(refine gy (s:=.tmp 274) (x:=.tmp 276) rfl rfl Vq rfl hown1 rfl IE (by simp) (by simp[Value.oneCell']) hm1 hm2 ?_ ?_;(simp;omega);intro B0 d0 W2 agM SI fr2);(have zz2:=SI.size;simp at zz2;have G1:=ae (eQ.grow (bt:=w.heap.size+1) (j:=3) (u:=.slice B0 (k+1) d0) iV.out agM rfl (by simp) SI fr2 YV YW.out);have X1:=ae (qg (j:=3) YS.out iV.out.hue YW.out SI (.slice B0 (k+1) d0));obtain⟨x10,x11,x12,J4,x14,x15,x1l⟩:=dP X1.out.1;have x1f:=X1.out.1.frozen;have SK:=ae (Dc (i:=2) YT.out YV);have HR1:=ae (iG.out.keep G1.out.2 (iq YT.out (by omega) (by omega)) (aT (i:=2)));have hown2:=HR1.out.own.alloc (.cells #[.int .i64 SE] 3);have YX:=xG (w:=W2.setCell ⟨w.heap.size+1,3,none⟩ (.slice B0 (k+1) d0)) (T:=3) (g:=W2.heap.size) [.int .i64 SE] 1 (by simp[World.setCell]) rfl))
      | (at_builtin;(refine gy (s:=.tmp 280) (x:=.tmp 282) rfl rfl Vj rfl hown2 rfl YX (by simp) (by simp[Value.oneCell']) hm1 YU ?_ ?_;(simp[World.setCell];omega);intro B1 d1 W5 agN SL fr5);(have zz5:=SL.size;simp[World.setCell] at zz5;have NV:w.heap.size+1<(W2.setCell ⟨w.heap.size+1,3,none⟩ (.slice B0 (k+1) d0)).heap.size:=(by simp[World.setCell];omega);have YY:=xH SK.out 3 (by omega);have G2:=ae (eQ.grow (bt:=w.heap.size+1) (j:=4) (u:=.slice B1 (k+1) d1) HR1.out agN rfl (by simp) SL fr5 NV YY);have X2:=ae (qg (j:=4) X1.out.2 HR1.out.hue YY SL (.slice B1 (k+1) d1));obtain⟨x20,yj,xC,vN,x24,x25,x2l⟩:=dP X2.out.1;have x2f:=X2.out.1.frozen;have Hq2:=ae (Dc (i:=3) SK.out NV);have agU:=ae ((gm.out.keep G1.out.2 (iq YT.out (by omega) (by omega)) (aT (i:=2))).keep G2.out.2 (iq SK.out (by omega) (by omega)) (aT (i:=3)));have hown3:=agU.out.own.alloc (.cells #[.int .i64 SG] 3);have YZ:=xG (w:=W5.setCell ⟨w.heap.size+1,4,none⟩ (.slice B1 (k+1) d1)) (T:=3) (g:=W5.heap.size) [.int .i64 SG] 1 (by simp[World.setCell]) rfl))
      | (at_builtin;(refine gy (s:=.tmp 286) (x:=.tmp 288) rfl rfl Vj rfl hown3 rfl YZ (by simp) (by simp[Value.oneCell']) hm1 YU ?_ ?_;(simp[World.setCell];omega);intro B2 d2 W8 agO Y0 fr8);(have Y1:w.heap.size+1<(W5.setCell ⟨w.heap.size+1,4,none⟩ (.slice B1 (k+1) d1)).heap.size:=(by simp[World.setCell];omega);have Y2:=xH Hq2.out 4 (by omega);have G3:=ae (eQ.grow (bt:=w.heap.size+1) (j:=5) (u:=.slice B2 (k+1) d2) agU.out agO rfl (by simp) Y0 fr8 Y1 Y2);have X3:=ae (qg (j:=5) X2.out.2 agU.out.hue Y2 Y0 (.slice B2 (k+1) d2));obtain⟨x30,x31,x32,EC,x34,ED,x3l⟩:=dP X3.out.1;have x3f:=X3.out.1.frozen)))
      all_goals
       have hl:(ss++[St.mk x.op x.name x.src x.n x.cols exprs body els]).length=k+1:=by rw[List.length_append,Hk.out];rfl
       exact⟨⟨_,ss++[.mk x.op x.name x.src x.n x.cols exprs body els],B0,d0,B1,d1,B2,d2,by rw[hl];omega,by rw[hl];go_num,pK.add Wv.out Hk.out h50 Hte.out SH.out HPS.out G1.out.2 G2.out.2 G3.out.2 G1.out.1 G2.out.1 G3.out.1 X3.out.2⟩,by simp[intOf];omega⟩
  ·go_wp2
   all_goals
    exact HI.out _ _ _ _ _ _ _ _ _ _ _ _ _ _ _ _ _ _ _ _ _ _ _ _ _ _ _ _ _ _ _ _ _ _ _ _ _ _ _ _ _ _ _ _ _ _ _ _ _ _ _ _ _ _ _ _ _ _ _ _ _ _ _ _ _ _ _ _ _ _ _ _ _ _ _ _ _ _ _ _ _ _ _ _ _ _ _ _ _ _ _ _ _ _ _ _ _ _ _ _ _ _ _ _ _ _ _ _ _ _ _ _ _ _ _ _ _ _ _ _ _ _ _ _ _ _ _ _ _ _ _ _ _ _ _ _ _ _ _ _ _ _ _ _ _ _ _ _ _ _ _ _ _ _ _ _ _ _ _ _ _ _ _ _ _ _ _ _ _ _ _ _ _ _ _ _ _ _ _ _ _ _ _ _ ⟨_,_,_,_,_,_,_,_,_,_,_,_,_,_,_,HW.out⟩
end Go.Proofs.YtjjfkhbajidmdaaGreatDoor
