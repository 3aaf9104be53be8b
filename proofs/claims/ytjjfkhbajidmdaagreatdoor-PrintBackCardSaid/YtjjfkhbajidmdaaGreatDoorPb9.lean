/- Parts of this proof, one behind the other: RefR. -/
import Derived.Test.YtjjfkhbajidmdaaGreatDoorPb8
import Derived.Outline
set_option maxRecDepth 1000000
set_option maxHeartbeats 40000000
namespace Go.Proofs.YtjjfkhbajidmdaaGreatDoor
open Go.RowKit Go.Afx
def jy (n:Nat):Code→Bool
 | .region i _ _=>i==n
 | .seq a _=>jy n a
 | .block _ c=>jy n c
 | .scope c=>jy n c
 | .loop c=>jy n c
 | _=>false
def findLoop (n:Nat):Code→Option Code
 | .loop c=>if jy n c then some c else findLoop n c
 | .seq a b=>match findLoop n a with
  | some c=>some c
  | none=>findLoop n b
 | .block _ c=>findLoop n c
 | .scope c=>findLoop n c
 | .cond _ a b=>match findLoop n a with
  | some c=>some c
  | none=>findLoop n b
 | _=>none
def kM (Q:Exit→Act→World→Prop):Exit→Act→World→Prop
 | .panic _,_,_=>False
 | e,a,w=>Q e a w
theorem fM {I:Act→World→Prop} {Q:Exit→Act→World→Prop} (e:Exit) (a:Act) (w:World) (h:Exit.then I (kM Q) e a w):Exit.then I Q e a w:=by
 cases e<;>first|exact h|exact False.elim h
noncomputable def NK (n:Nat):Code:=((Tryz.f10.body.bind (findLoop n)).getD .skip)
def Vh (nk:Nat) (w2:World) (g:Nat) (hue:Nat→Nat) (w1:World) (k:Nat) (x:Lf) (a9 a10 a11:Value) (wr:World):Prop :=
 ∃ (q:Nat) (args:List Ex) (Aa:Option Addr) (ca:Nat),q≤nk∧q≤4∧args.length≤q∧a9=.int .i64 (1+sumT (args.map bZ))∧a10=.int .i64 (iU (args.map bZ))∧a11=.int .i64 q∧oG w2 wr g hue w1 k x args Aa ca
theorem agK (F:Nat→Prop) (w w1 w2 wr:World) (hue:Nat→Nat) (es:List Ex) (A0 A1 A2:Option Addr) (c0 c1 c2 k:Nat) (x:Lf) (Ak:Option Addr) (nk ck q:Nat) (args:List Ex) (Aa:Option Addr) (ca:Nat) {x0 x1 x2 x3 x4 x12 J4 x14 x15 x16 x17 x18 x19 x20 yj xC vN x24 x25 Fh x27 x28 x29 x30 x31 x32 EC x34 ED Fj Fp x38 x39 x40 x41 vZ x43 wo Fq Fv Fz FB Gi Gj Gl Gm Gn x54 x55 Gp Gq Gs Gt Gu Gv Gw Gx Gy Gz x66 GG GH x69 GI GK GL GM GN GR GU GV GX GY x80 x81 x82 x83 x84 x85 x86 x87 x88 x89 x90 x91 GZ x93 FC x95 x96 FD x98 x99 x100 x101 x102 x103 x104 x105 nH x107 nI nJ nK nM x112 x113 x114 x115 l9 mf mg mi mr mD mF mG mJ nN nO nP nR nS nT nU nV nX nY nZ og oh oq ou oz oC oD qp qw qx qy qA qB qC x150 x151 x152 x153 qE qF qG x157 x158 x159 x160 qH qI qJ qK qL qM x167 x168 qN qO qP qQ qR qU qV qW qX qY qZ rq ru ry rC rD rE rF rG rH rJ sJ sK sN sO sQ sS sU sV sW sZ x200 Ar Au Aw Az AA AB AL AO AP AQ AU AV AX AY AZ Ba Bc Be Bf Bg Bh Bi Bj Bo Bv Bz BA BC BD BF BG BH BI BJ BK BL BM BN BO BQ BR BU BV BX BZ Cb Cc Ce Cf Ci Cj Cm CB CG CJ CO CP CQ CS CU CV CW CX CY CZ C9 yu yw yx yz yA yB yC yD yE yF yG yH yI yJ yK yL yM yN yO yP yQ yR yS yT wE:Value} {I:Act→World→Prop} {Q0:Exit→Act→World→Prop}
  (hF:∀ k,F k→k<w.heap.size) (hW:pJ F w w1 hue es A0 c0 A1 c1 A2 c2 (.slice none 0 0) (.slice none 0 0) (.slice none 0 0)) (hk:es.length=k) (h50:k<50) (NS:ai F w 1 kD Ak nk ck x.kids) (hk1:0<k)
  (hw2:w2=(w1.alloc (.cells #[.int .i64 x.op,.int .i64 x.n,.string x.s,.string x.name,.string x.src,.slice Ak nk ck] 70)).alloc (.cells #[.int .i64 x.op,.int .i64 x.n,.string x.s,.string x.name,.string x.src,.slice none 0 0] 55))
  (hE:oG w2 wr (w1.heap.size+1) hue w1 k x args Aa ca) (hqn:q<nk) (Sz:q<4) (hal:args.length≤q)
  (hI:∀ (y9 y10 y11 y12 y49 y50 y51 y52 y53 y54 y55 y56 y57 y58 y59 y60 y61 y62 y63 y64 y65 y66 y67 y68 y69 y70 y71 y72 y73 y74 y75 y76 y77 y78 y79 y80 y81 y82 y83 y84 y85 y86 y87 y88 y89 y90 y91 y92 y93:Value) (W:World),Vh nk w2 (w1.heap.size+1) hue w1 k x y9 y10 y11 W→y11=.int .i64 ((q+1:Nat):Int)→I ⟨#[x0,x1,x2,x3,x4,.pointer (some ⟨w.heap.size+1,0,none⟩),.int .i64 (k:Int),.pointer (some ⟨w1.heap.size,0,none⟩),.pointer (some ⟨w1.heap.size+1,0,none⟩),y9,y10,y11,y12,J4,x14,x15,x16,x17,x18,x19,x20,yj,xC,vN,x24,x25,Fh,x27,x28,x29,x30,x31,x32,EC,x34,ED,Fj,Fp,x38,x39,x40,x41,vZ,x43,wo,Fq,Fv,Fz,FB,y49,y50,y51,y52,y53,y54,y55,y56,y57,y58,y59,y60,y61,y62,y63,y64,y65,y66,y67,y68,y69,y70,y71,y72,y73,y74,y75,y76,y77,y78,y79,y80,y81,y82,y83,y84,y85,y86,y87,y88,y89,y90,y91,y92,y93,FC,x95,x96,FD,x98,x99,x100,x101,x102,x103,x104,x105,nH,x107,nI,nJ,nK,nM,x112,x113,x114,x115,l9,mf,mg,mi,mr,mD,mF,mG,mJ,nN,nO,nP,nR,nS,nT,nU,nV,nX,nY,nZ,og,oh,oq,ou,oz,oC,oD,qp,qw,qx,qy,qA,qB,qC,x150,x151,x152,x153,qE,qF,qG,x157,x158,x159,x160,qH,qI,qJ,qK,qL,qM,x167,x168,qN,qO,qP,qQ,qR,qU,qV,qW,qX,qY,qZ,rq,ru,ry,rC,rD,rE,rF,rG,rH,rJ,sJ,sK,sN,sO,sQ,sS,sU,sV,sW,sZ,x200,Ar,Au,Aw,Az,AA,AB,AL,AO,AP,AQ,AU,AV,AX,AY,AZ,Ba,Bc,Be,Bf,Bg,Bh,Bi,Bj,Bo,Bv,Bz,BA,BC,BD,BF,BG,BH,BI,BJ,BK,BL,BM,BN,BO,BQ,BR,BU,BV,BX,BZ,Cb,Cc,Ce,Cf,Ci,Cj,Cm,CB,CG,CJ,CO,CP,CQ,CS,CU,CV,CW,CX,CY,CZ,C9,yu,yw,yx,yz,yA,yB,yC,yD,yE,yF,yG,yH,yI,yJ,yK,yL,yM,yN,yO,yP,yQ,yR,yS,yT,wE],[]⟩ W) :
  Code.wp Tryz.prog (NK 9) (Exit.then I (kM Q0)) ⟨#[x0,x1,x2,x3,x4,.pointer (some ⟨w.heap.size+1,0,none⟩),.int .i64 (k:Int),.pointer (some ⟨w1.heap.size,0,none⟩),.pointer (some ⟨w1.heap.size+1,0,none⟩),.int .i64 (1+sumT (args.map bZ)),.int .i64 (iU (args.map bZ)),.int .i64 (q:Int),x12,J4,x14,x15,x16,x17,x18,x19,x20,yj,xC,vN,x24,x25,Fh,x27,x28,x29,x30,x31,x32,EC,x34,ED,Fj,Fp,x38,x39,x40,x41,vZ,x43,wo,Fq,Fv,Fz,FB,Gi,Gj,Gl,Gm,Gn,x54,x55,Gp,Gq,Gs,Gt,Gu,Gv,Gw,Gx,Gy,Gz,x66,GG,GH,x69,GI,GK,GL,GM,GN,GR,GU,GV,GX,GY,x80,x81,x82,x83,x84,x85,x86,x87,x88,x89,x90,x91,GZ,x93,FC,x95,x96,FD,x98,x99,x100,x101,x102,x103,x104,x105,nH,x107,nI,nJ,nK,nM,x112,x113,x114,x115,l9,mf,mg,mi,mr,mD,mF,mG,mJ,nN,nO,nP,nR,nS,nT,nU,nV,nX,nY,nZ,og,oh,oq,ou,oz,oC,oD,qp,qw,qx,qy,qA,qB,qC,x150,x151,x152,x153,qE,qF,qG,x157,x158,x159,x160,qH,qI,qJ,qK,qL,qM,x167,x168,qN,qO,qP,qQ,qR,qU,qV,qW,qX,qY,qZ,rq,ru,ry,rC,rD,rE,rF,rG,rH,rJ,sJ,sK,sN,sO,sQ,sS,sU,sV,sW,sZ,x200,Ar,Au,Aw,Az,AA,AB,AL,AO,AP,AQ,AU,AV,AX,AY,AZ,Ba,Bc,Be,Bf,Bg,Bh,Bi,Bj,Bo,Bv,Bz,BA,BC,BD,BF,BG,BH,BI,BJ,BK,BL,BM,BN,BO,BQ,BR,BU,BV,BX,BZ,Cb,Cc,Ce,Cf,Ci,Cj,Cm,CB,CG,CJ,CO,CP,CQ,CS,CU,CV,CW,CX,CY,CZ,C9,yu,yw,yx,yz,yA,yB,yC,yD,yE,yF,yG,yH,yI,yJ,yK,yL,yM,yN,yO,yP,yQ,yR,yS,yT,wE],[]⟩ wr:=by
 conv=>arg 2;whnf
 have HI:=ae hI
 clear hI
 have Hk:=ae hk
 clear hk
 have HW:=ae hW
 clear hW
 have hfew:=HW.out.few
 have hb2:Below w1.heap.size w1 w2:=by rw[hw2];exact((Below.refl _ _).alloc (Nat.le_refl _) _).alloc (by simp) _
 have hz2:w2.heap.size=w1.heap.size+2:=by rw[hw2];simp
 have hx2:af w2 w1.heap.size 70 #[.int .i64 x.op,.int .i64 x.n,.string x.s,.string x.name,.string x.src,.slice Ak nk ck]:=by rw[hw2];exact(af.laid _ _ _).alloc _
 clear hw2
 have hnk:=NS.gu
 have hbw:=HW.out.low.size
 have hbt:=HW.out.box.lt
 have KD:=ae (fun W (hW:But (fun b=>b=w1.heap.size+1) w2 W)=>hx2.ag (hW.block _ hx2.lt (by omega)))
 have NT:=ae (fun W (hW:But (fun b=>b=w1.heap.size+1) w2 W)=>HW.out.box.ag ((hW.block _ (Nat.lt_of_lt_of_le hbt hb2.size) (by omega)).trans (hb2.block _ hbt)))
 have Ig:=ae (fun W (hW:But (fun b=>b=w1.heap.size+1) w2 W)=>((NS.below HW.out.low).below hb2).kept (Kept.aN hW (fun b hb=>by have:=hF b hb;omega)))
 have HR2:=ae (fun W (hW:But (fun b=>b=w1.heap.size+1) w2 W) b (hb:b<w1.heap.size)=>(hW.block b (Nat.lt_of_lt_of_le hb hb2.size) (by omega)).trans (hb2.block b hb))
 rw[Hk.out] at NT
 clear hx2 NS
 have HE:=ae hE
 obtain⟨hsum,htop,hsb,htb,lK,lG⟩:∃ hsum htop:Int,(0≤hsum∧hsum≤4000)∧(1≤htop∧htop≤1001)∧Hid (sumT (args.map bZ)=hsum)∧Hid (iU (args.map bZ)=htop) :=
  ⟨_,_,NU (by omega),ng (fun t ht=>by obtain⟨a,_,rfl⟩:=List.mem_map.1 ht;exact kH a),rfl,rfl⟩
 obtain⟨hs0,hs1⟩:=hsb
 obtain⟨ht0,ht1⟩:=htb
 rw[lK.out,lG.out]
 generalize hm:args.length=m at *
 have Hm:=ae hm
 clear hm hE
 obtain⟨l0,l1,l2,l3,l4,l5,ll⟩:=dP (KD.out _ HE.out.but)
 obtain⟨t0,t1,t2,_,_,_,tl⟩:=dP (NT.out _ HE.out.but)
 have hd3:decide ((q:Int)<(nk:Int))=true:=by simp;omega
 have hd4:decide ((q:Int)<4)=true:=by simp;omega
 obtain⟨bk,ok,rk,v,rfl,hbk,_,_,_,hv,hcv⟩:=(Ig.out _ HE.out.but).get hqn
 obtain⟨rfl,okv⟩:=hv
 have hcv:=hcv 0 _ rfl
 rw[Nat.mul_one,Nat.add_zero] at hcv
 obtain⟨j,Hj⟩:∃ j,Hid (zi v k=j):=⟨_,rfl⟩
 have hjk:j<k:=by rw[← Hj.out];exact wI v k (by omega)
 have hpk:=fun W=>yg v k W (by omega) (by omega)
 rw[Hj.out] at hpk
 have Hpk:=ae hpk
 clear hpk
 obtain⟨b0,b1,b2,re,a,rfl,rfl,rfl,hb0,hb1,hb2',haj,hrl2,hpa,hca,hcn,hcd,hu0,hu1,hu2⟩:=HW.out.tri.get (k:=j) (by rw[Hk.out];exact hjk)
 obtain⟨p1,p2,p3,p4,p5,A6,m6,c6,rfl,h6⟩:=hpa
 have Hpa:Hid (PE hue w1 j [.int .i64 a.op,.int .i64 a.n,.string a.s,.string a.name,.string a.src,.slice A6 m6 c6] a):=ae ⟨p1,p2,p3,p4,p5,A6,m6,c6,rfl,h6⟩
 clear h6
 have hR:=fun b hb i=>World.cell?_of_block (a:=⟨b,i,none⟩) (HR2.out wr HE.out.but b hb)
 have e0:=(hR b0 hb0 _).trans (hca 0 _ rfl)
 have e1:=(hR b0 hb0 _).trans (hca 1 _ rfl)
 have e2:=(hR b0 hb0 _).trans (hca 2 _ rfl)
 have e3:=(hR b0 hb0 _).trans (hca 3 _ rfl)
 have e4:=(hR b0 hb0 _).trans (hca 4 _ rfl)
 have e5:=(hR b0 hb0 _).trans (hca 5 _ rfl)
 have f1:=(hR b1 hb1 _).trans hcn
 have f2:=(hR b2 hb2' _).trans hcd
 rw[Nat.add_zero] at e0
 clear hR hca hcn hcd
 obtain⟨y0,y1,y2,y3,y4,y5,yl⟩:=dP HE.out.box
 rw[Hm.out] at y5
 go_wp2_with (go_at_call 24;refine(Hpk.out _).mono ?_;rintro e w' ⟨rfl,rfl⟩)
 obtain⟨rows,hown,hrlen,tN,uT⟩:=HE.out.rows
 rw[Hm.out] at hown
 have SH:=ae uT
 have Vu:=ae tN
 have Hrl:=ae hrlen
 clear uT tN hrlen
 have hg2:=HE.out.but.size
 have hfz:=HE.out.box.frozen
 have hownA:((wr.drew).alloc (.cells #[.int .i64 a.op,.int .i64 a.n,.string a.s,.string a.name,.string a.src,.slice A6 m6 c6] 55)).ownsRow w2.heap.size 55 6 (.slice Aa m ca) m rows.flatten:=World.ownsRow.alloc (show wr.drew.ownsRow w2.heap.size 55 6 (.slice Aa m ca) m rows.flatten from hown) _
 have Dk:az ((wr.drew).alloc (.cells #[.int .i64 a.op,.int .i64 a.n,.string a.s,.string a.name,.string a.src,.slice A6 m6 c6] 55)) 6 (some ⟨wr.heap.size,0,none⟩) 1 1 [[.int .i64 a.op,.int .i64 a.n,.string a.s,.string a.name,.string a.src,.slice A6 m6 c6]]:=az.nG _ _ 1 (by rfl) rfl (by simp) rfl (by unfold maxLen;omega)
 have hm1:m+1≤maxLen:=by unfold maxLen;omega
 have hm2:(m+1)*88≤140737488355328:=by omega
 have Vw:w2.heap.size≤((wr.drew).alloc (.cells #[.int .i64 a.op,.int .i64 a.n,.string a.s,.string a.name,.string a.src,.slice A6 m6 c6] 55)).heap.size:=by simp;omega
 have hAl:∀ b,b<w2.heap.size→¬ Aa.map (·.block)=some b:=by
  intro b hb e
  cases Aa with
  | none=>cases e
  | some a2 =>
   have h:=(hown.lt a2.block rfl).1
   simp at e
   omega
 have SY:=ae hAl
 clear hAl
 obtain⟨W0,HW0⟩:∃ W0,Hid (W0=(wr.drew).alloc (.cells #[.int .i64 a.op,.int .i64 a.n,.string a.s,.string a.name,.string a.src,.slice A6 m6 c6] 55)):=⟨_,rfl⟩
 have Dl:=ae (fun (w3:World) (hb:But (fun k=>Aa.map (·.block)=some k) ((wr.drew).alloc (.cells #[.int .i64 a.op,.int .i64 a.n,.string a.s,.string a.name,.string a.src,.slice A6 m6 c6] 55)) w3) (b:Nat) (hb0:b<w2.heap.size) (i:Nat)=>(hb.cell (p:=⟨b,i,none⟩) (by simp;omega) (SY.out b hb0)).trans (World.cell?_alloc_lt wr.drew _ ⟨b,i,none⟩ (show b<wr.heap.size by omega)))
 have Hf3:=ae (fun (w3:World) (hb:But (fun k=>Aa.map (·.block)=some k) ((wr.drew).alloc (.cells #[.int .i64 a.op,.int .i64 a.n,.string a.s,.string a.name,.string a.src,.slice A6 m6 c6] 55)) w3)=>((HE.out.box.alloc _).ag (hb.block _ (by simp;omega) (SY.out _ (by omega)))).frozen)
 have SV:∀ b,Aa.map (·.block)=some b→w2.heap.size≤b:=fun b hb=>by
  rcases Nat.lt_or_ge b w2.heap.size with hlt|hlt
  ·exact absurd hb (SY.out b hlt)
  ·exact hlt
 have alO:=ae SV
 clear SV
 have Hsn:=ae (sumT_snoc (args.map bZ) (bZ a))
 have Htn:=ae (yh (args.map bZ) (bZ a))
 have ⟨ta0,ta1,ta2,ta3⟩:=kH a
 generalize htl:bZ a=tl at *
 have KE:=ae htl
 clear htl
 have n0:w.heap.size+1≠w1.heap.size+1:=by omega
 have n1:b1≠w1.heap.size+1:=by omega
 have n2:b2≠w1.heap.size+1:=by omega
 go_region_law (refine Dn (base:=w2.heap.size) (xs:=rows) (news:=[[.int .i64 a.op,.int .i64 a.n,.string a.s,.string a.name,.string a.src,.slice A6 m6 c6]]) rfl rfl agL rfl hownA rfl Dk (by simp) (by simp[Value.oneCell']) hm1 hm2 Vw ?_;intro A3 c3 w3 hown3 dB hf3;have aiT:=Hf3.out w3 dB;have z0:=(Dl.out w3 dB _ (by omega) 5).trans y5)
 all_goals
  have z1:=(Dl.out w3 dB (w.heap.size+1) (by omega) 1).trans t1
  have z2:=(Dl.out w3 dB (w.heap.size+1) (by omega) 2).trans t2
  have z3:=(Dl.out w3 dB b1 (by omega) j).trans f1
  have z4:=(Dl.out w3 dB b2 (by omega) j).trans f2
  go_wp2
  all_goals
   have hA:=oG.add HE.out Hm.out (by omega) Hrl.out Vu.out SH.out rfl (aC.conv (fun _ h=>h) (Kept.refl _ _) _ (by omega) Hpa.out) alO.out hown3 dB (fun a2 ha=>by
    rcases hf3 a2 ha with h|h
    ·exact alO.out _ (by rw[h];rfl)
    ·exact Nat.le_trans Vw h)
   refine HI.out _ _ _ _ _ _ _ _ _ _ _ _ _ _ _ _ _ _ _ _ _ _ _ _ _ _ _ _ _ _ _ _ _ _ _ _ _ _ _ _ _ _ _ _ _ _ _ _ _ _ ⟨q+1,args++[a],A3,c3,by omega,by omega,by rw[List.length_append,Hm.out];simp<;>omega,?_,?_,by go_num,hA⟩ (by go_num)
   ·rw[List.map_append,List.map_cons,List.map_nil,KE.out,Hsn.out,lK.out,← Int.add_assoc]
   ·rw[List.map_append,List.map_cons,List.map_nil,KE.out,Htn.out,lG.out]<;>first|rw[Dp]|exact congrArg (Value.int .i64) (by omega)
def Vm (w2:World) (g:Nat) (hue:Nat→Nat) (w1:World) (k:Nat) (x:Kn) (Ac:Option Addr) (nc cc nx:Nat) (a9 a10 a11:Value) (wr:World):Prop :=
 ∃ (q:Nat) (exprs:List Ex) (Ae:Option Addr) (ce:Nat),q≤nx∧q≤10∧exprs.length≤q∧a9=.int .i64 (1+sumT (exprs.map bZ))∧a10=.int .i64 (iU (exprs.map bZ))∧a11=.int .i64 q∧iW w2 wr g hue w1 k x Ac nc cc exprs [] [] Ae ce none 0 none 0
theorem agS (F:Nat→Prop) (w w1 w2 wr:World) (hue:Nat→Nat) (es:List Ex) (ss:List St) (A0 A1 A2 A3 A4 A5:Option Addr) (c0 c1 c2 c3 c4 c5 k ne:Nat) (x:Kn) (Ac Ax Ab Al:Option Addr) (nc cc nx cx nb cb nl cl q:Nat) (args:List Ex) (Aa:Option Addr) (ca:Nat) {x0 x1 x2 x3 x4 x6 x7 x8 x9 x10 x11 x12 J4 x19 x20 yj xC vN x24 x25 Fh x27 x28 x29 x30 x31 x32 EC x34 ED Fj Fp x38 x39 x40 x41 vZ x43 wo Fq Fv Fz FB Gi Gj Gl Gm Gn x54 x55 Gp Gq Gs Gt Gu Gv Gw Gx Gy Gz x66 GG GH x69 GI GK GL GM GN GR GU GV GX GY x80 x81 x82 x83 x84 x85 x86 x87 x88 x89 x90 x91 GZ x93 FC x95 x96 FD x98 x99 x100 x101 x102 x103 x104 x105 nH x107 nI nJ nK nM x112 x113 x114 x115 l9 mf mg mi mr mD mF mG mJ nN nO nP nR nS nT nU nV nX nY nZ og oh oq ou oz oC oD qp qw qx qy qA qB qC x150 x151 x152 x153 qE qF qG x157 x158 x159 x160 qH qI qJ qK qL qM x167 x168 qN qO qP qQ qR qU qV qW qX qY qZ rq ru ry rC rD rE rF rG rH rJ sJ sK sN sO sQ sS sU sV sW sZ x200 Ar Au Aw Az AA AB AL AO AP AQ AU AV AX AY AZ Ba Bc Be Bf Bg Bh Bi Bj Bo Bv Bz BA BC BD BF BG BH BI BJ BK BL BM BN BO BQ BR BU BV BX BZ Cb Cc Ce Cf Ci Cj Cm CB CG CJ CO CP CQ CS CU CV CW CX CY CZ C9 yu yw yx yz yA yB yC yD yE yF yG yH yI yJ yK yL yM yN yO yP yQ yR yS yT wE:Value} {I:Act→World→Prop} {Q0:Exit→Act→World→Prop}
  (hF:∀ k,F k→k<w.heap.size) (hW:pK F w w1 hue es ss A0 c0 A1 c1 A2 c2 A3 c3 A4 c4 A5 c5) (hk:ss.length=k) (hne:es.length=ne)
  (hkx:ai F w1 1 kD Ax nx cx x.exprs) (hkb:ai F w1 1 kD Ab nb cb x.body) (hkl:ai F w1 1 kD Al nl cl x.els)
  (hw2:w2=(w1.alloc (.cells #[.int .i64 x.op,.string x.name,.string x.src,.int .i64 x.n,.slice Ac nc cc,.slice Ax nx cx,.slice Ab nb cb,.slice Al nl cl] 72)).alloc (.cells #[.int .i64 x.op,.string x.name,.string x.src,.int .i64 x.n,.slice Ac nc cc,.slice none 0 0,.slice none 0 0,.slice none 0 0] 49))
  (hE:iW w2 wr (w1.heap.size+1) hue w1 k x Ac nc cc args [] [] Aa ca none 0 none 0) (hqn:q<nx) (Sz:q<10) (hal:args.length≤q)
  (hI:∀ (Vk Vl y18 y19 Zl Zm Zn Zo Zp Zq Zr y150 y151 y152 y153 Zt Zu Zv y157 y158 y159 y160 Zw Zx Zy Zz ZA ZB y167 y168 ZC ZE ZF ZG ZH ZI ZJ ZK ZL ZM ZN ZO ZP ZQ ZR ZT ZU ZV ZW ZX ZY:Value) (W:World),Vm w2 (w1.heap.size+1) hue w1 k x Ac nc cc nx Vk Vl y18 W→y18=.int .i64 ((q+1:Nat):Int)→I ⟨#[x0,x1,x2,x3,x4,.pointer (some ⟨w.heap.size+1,0,none⟩),x6,x7,x8,x9,x10,x11,x12,J4,.pointer (some ⟨w1.heap.size,0,none⟩),.pointer (some ⟨w1.heap.size+1,0,none⟩),Vk,Vl,y18,y19,x20,yj,xC,vN,x24,x25,Fh,x27,x28,x29,x30,x31,x32,EC,x34,ED,Fj,Fp,x38,x39,x40,x41,vZ,x43,wo,Fq,Fv,Fz,FB,Gi,Gj,Gl,Gm,Gn,x54,x55,Gp,Gq,Gs,Gt,Gu,Gv,Gw,Gx,Gy,Gz,x66,GG,GH,x69,GI,GK,GL,GM,GN,GR,GU,GV,GX,GY,x80,x81,x82,x83,x84,x85,x86,x87,x88,x89,x90,x91,GZ,x93,FC,x95,x96,FD,x98,x99,x100,x101,x102,x103,x104,x105,nH,x107,nI,nJ,nK,nM,x112,x113,x114,x115,l9,mf,mg,mi,mr,mD,mF,mG,mJ,nN,nO,nP,nR,nS,nT,nU,nV,nX,nY,nZ,og,oh,oq,ou,oz,oC,oD,Zl,Zm,Zn,Zo,Zp,Zq,Zr,y150,y151,y152,y153,Zt,Zu,Zv,y157,y158,y159,y160,Zw,Zx,Zy,Zz,ZA,ZB,y167,y168,ZC,ZE,ZF,ZG,ZH,ZI,ZJ,ZK,ZL,ZM,ZN,ZO,ZP,ZQ,ZR,ZT,ZU,ZV,ZW,ZX,ZY,sJ,sK,sN,sO,sQ,sS,sU,sV,sW,sZ,x200,Ar,Au,Aw,Az,AA,AB,AL,AO,AP,AQ,AU,AV,AX,AY,AZ,Ba,Bc,Be,Bf,Bg,Bh,Bi,Bj,Bo,Bv,Bz,BA,BC,BD,BF,BG,BH,BI,BJ,BK,BL,BM,BN,BO,BQ,BR,BU,BV,BX,BZ,Cb,Cc,Ce,Cf,Ci,Cj,Cm,CB,CG,CJ,CO,CP,CQ,CS,CU,CV,CW,CX,CY,CZ,C9,yu,yw,yx,yz,yA,yB,yC,yD,yE,yF,yG,yH,yI,yJ,yK,yL,yM,yN,yO,yP,yQ,yR,yS,yT,wE],[]⟩ W) :
  Code.wp Tryz.prog (NK 27) (Exit.then I (kM Q0)) ⟨#[x0,x1,x2,x3,x4,.pointer (some ⟨w.heap.size+1,0,none⟩),x6,x7,x8,x9,x10,x11,x12,J4,.pointer (some ⟨w1.heap.size,0,none⟩),.pointer (some ⟨w1.heap.size+1,0,none⟩),.int .i64 (1+sumT (args.map bZ)),.int .i64 (iU (args.map bZ)),.int .i64 (q:Int),x19,x20,yj,xC,vN,x24,x25,Fh,x27,x28,x29,x30,x31,x32,EC,x34,ED,Fj,Fp,x38,x39,x40,x41,vZ,x43,wo,Fq,Fv,Fz,FB,Gi,Gj,Gl,Gm,Gn,x54,x55,Gp,Gq,Gs,Gt,Gu,Gv,Gw,Gx,Gy,Gz,x66,GG,GH,x69,GI,GK,GL,GM,GN,GR,GU,GV,GX,GY,x80,x81,x82,x83,x84,x85,x86,x87,x88,x89,x90,x91,GZ,x93,FC,x95,x96,FD,x98,x99,x100,x101,x102,x103,x104,x105,nH,x107,nI,nJ,nK,nM,x112,x113,x114,x115,l9,mf,mg,mi,mr,mD,mF,mG,mJ,nN,nO,nP,nR,nS,nT,nU,nV,nX,nY,nZ,og,oh,oq,ou,oz,oC,oD,qp,qw,qx,qy,qA,qB,qC,x150,x151,x152,x153,qE,qF,qG,x157,x158,x159,x160,qH,qI,qJ,qK,qL,qM,x167,x168,qN,qO,qP,qQ,qR,qU,qV,qW,qX,qY,qZ,rq,ru,ry,rC,rD,rE,rF,rG,rH,rJ,sJ,sK,sN,sO,sQ,sS,sU,sV,sW,sZ,x200,Ar,Au,Aw,Az,AA,AB,AL,AO,AP,AQ,AU,AV,AX,AY,AZ,Ba,Bc,Be,Bf,Bg,Bh,Bi,Bj,Bo,Bv,Bz,BA,BC,BD,BF,BG,BH,BI,BJ,BK,BL,BM,BN,BO,BQ,BR,BU,BV,BX,BZ,Cb,Cc,Ce,Cf,Ci,Cj,Cm,CB,CG,CJ,CO,CP,CQ,CS,CU,CV,CW,CX,CY,CZ,C9,yu,yw,yx,yz,yA,yB,yC,yD,yE,yF,yG,yH,yI,yJ,yK,yL,yM,yN,yO,yP,yQ,yR,yS,yT,wE],[]⟩ wr:=by
 conv=>arg 2;whnf
 have HI:=ae hI
 clear hI
 have Hk:=ae hk
 clear hk
 have JZ:=ae hne
 clear hne
 have HW:=ae hW
 clear hW
 have ZZ:ne≤50:=by rw[← JZ.out];exact HW.out.few
 have hb2:Below w1.heap.size w1 w2:=by rw[hw2];exact((Below.refl _ _).alloc (Nat.le_refl _) _).alloc (by simp) _
 have hz2:w2.heap.size=w1.heap.size+2:=by rw[hw2];simp
 have hx2:af w2 w1.heap.size 72 #[.int .i64 x.op,.string x.name,.string x.src,.int .i64 x.n,.slice Ac nc cc,.slice Ax nx cx,.slice Ab nb cb,.slice Al nl cl]:=by rw[hw2];exact(af.laid _ _ _).alloc _
 clear hw2
 have hnx:=hkx.gu
 have hnb:=hkb.gu
 have hnl:=hkl.gu
 have hbw:=HW.out.low.size
 have hbt:=HW.out.box.lt
 have KD:=ae (fun W (hW:But (fun b=>b=w1.heap.size+1) w2 W)=>hx2.ag (hW.block _ hx2.lt (by omega)))
 have NT:=ae (fun W (hW:But (fun b=>b=w1.heap.size+1) w2 W)=>HW.out.box.ag ((hW.block _ (Nat.lt_of_lt_of_le hbt hb2.size) (by omega)).trans (hb2.block _ hbt)))
 have Kp:=ae (fun W (hW:But (fun b=>b=w1.heap.size+1) w2 W)=>(Kept.of_below hb2).trans (Kept.aN (F:=F) hW (fun b hb=>by have:=hF b hb;omega)))
 have HR2:=ae (fun W (hW:But (fun b=>b=w1.heap.size+1) w2 W) b (hb:b<w1.heap.size)=>(hW.block b (Nat.lt_of_lt_of_le hb hb2.size) (by omega)).trans (hb2.block b hb))
 have Wx:=ae hkx
 have Z4:=ae hkb
 have Hkl:=ae hkl
 rw[Hk.out,JZ.out] at NT
 clear hx2 hkx hkb hkl
 have HE:=ae hE
 obtain⟨hsum,htop,hsb,htb,lK,lG⟩:∃ hsum htop:Int,(0≤hsum∧hsum≤10000)∧(1≤htop∧htop≤1001)∧Hid (sumT (args.map bZ)=hsum)∧Hid (iU (args.map bZ)=htop) :=
  ⟨_,_,Vo (by omega),ng (fun t ht=>by obtain⟨a,_,rfl⟩:=List.mem_map.1 ht;exact kH a),rfl,rfl⟩
 obtain⟨hs0,hs1⟩:=hsb
 obtain⟨ht0,ht1⟩:=htb
 rw[lK.out,lG.out]
 generalize hm:args.length=m at *
 have Hm:=ae hm
 clear hm hE
 obtain⟨l0,l1,l2,l3,l4,l5,l6,l7,ll⟩:=pU (KD.out _ HE.out.but)
 obtain⟨t0,t1,t2,_,_,_,tl⟩:=dP (NT.out _ HE.out.but)
 have hd3:decide ((q:Int)<(nx:Int))=true:=by simp;omega
 have hd4:decide ((q:Int)<10)=true:=by simp;omega
 obtain⟨bk,ok,rk,v,rfl,hbk,_,_,_,hv,hcv⟩:=(Wx.out.kept (Kp.out _ HE.out.but)).get hqn
 obtain⟨rfl,okv⟩:=hv
 have hcv:=hcv 0 _ rfl
 rw[Nat.mul_one,Nat.add_zero] at hcv
 by_cases hk0:ne=0
 ·have SC:=ae hk0
  clear hk0
  have Hpk:=ae (fun W=>(xE v ne W SC.out).mono fun _ _ ⟨he,hw⟩=>And.intro he hw.symm)
  go_wp2
  go_quiet ((go_at_call 24;exact Calls.quiet_of_same (Hpk.out _)))
  go_wp2
  exact HI.out _ _ _ _ _ _ _ _ _ _ _ _ _ _ _ _ _ _ _ _ _ _ _ _ _ _ _ _ _ _ _ _ _ _ _ _ _ _ _ _ _ _ _ _ _ _ _ _ _ _ _ _ ⟨q+1,args,Aa,ca,by omega,by omega,by have:=Hm.out;omega,by rw[lK.out],by rw[lG.out],by go_num,HE.out.drewN _⟩ (by go_num)
 ·obtain⟨j,Hj⟩:∃ j,Hid (zi v ne=j):=⟨_,rfl⟩
  have hjk:j<ne:=by rw[← Hj.out];exact wI v ne (by omega)
  have hpk:=fun W=>(yg v ne W (by omega) (by omega)).mono fun _ _ ⟨he,hw⟩=>And.intro he hw.symm
  rw[Hj.out] at hpk
  have Hpk:=ae hpk
  clear hpk hk0
  obtain⟨b0,o0,a,A6,m6,c6,rfl,hb0,haj,alP,alQ,alR,alS,alT,alU,hpa,_⟩:=aO.get HW.out.Va (k:=j) (by rw[JZ.out];exact hjk)
  obtain⟨b1,oo1,r1,y1,rfl,hb1,_,hy1,_,hr1,hcn⟩:=HW.out.nod.get (k:=j) (by rw[JZ.out];exact hjk)
  obtain⟨b2,oo2,r2,y2,rfl,hb2',_,hy2,_,hr2,hcd⟩:=HW.out.dep.get (k:=j) (by rw[JZ.out];exact hjk)
  obtain⟨rfl,_⟩:=hr1
  obtain⟨rfl,_⟩:=hr2
  rw[List.getElem?_map,haj] at hy1 hy2
  injection hy1 with hy1
  injection hy2 with hy2
  subst hy1 hy2
  have Hpa:=ae hpa
  have hcn:=hcn 0 _ rfl
  have hcd:=hcd 0 _ rfl
  rw[Nat.mul_one,Nat.add_zero] at hcn hcd
  have hR:=fun b hb i=>World.cell?_of_block (a:=⟨b,i,none⟩) (HR2.out wr HE.out.but b hb)
  have e0:=(hR b0 hb0 _).trans alP
  have e1:=(hR b0 hb0 _).trans alQ
  have e2:=(hR b0 hb0 _).trans alR
  have e3:=(hR b0 hb0 _).trans alS
  have e4:=(hR b0 hb0 _).trans alT
  have e5:=(hR b0 hb0 _).trans alU
  have f1:=(hR b1 hb1 _).trans hcn
  have f2:=(hR b2 hb2' _).trans hcd
  clear hR alP alQ alR alS alT alU hcn hcd hpa
  obtain⟨y0,y1,y2,y3,y4,y5,y6,y7,yl⟩:=pU HE.out.box
  rw[Hm.out] at y5
  go_wp2
  go_quiet ((go_at_call 24;exact Calls.quiet_of_same (Hpk.out _)))
  go_wp2
  have HEq:=ae (HE.out.drewN nq)
  replace y5:(wr.drewN nq).cell? ⟨w1.heap.size+1,5,none⟩=some (.slice Aa m ca):=y5
  replace yl:w1.heap.size+1<(wr.drewN nq).heap.size:=yl
  replace tl:w.heap.size+1<(wr.drewN nq).heap.size:=tl
  replace t0:(wr.drewN nq).cell? ⟨w.heap.size+1,0,none⟩=some (.slice (some ⟨b0,o0,none⟩) ne c0):=t0
  replace t1:(wr.drewN nq).cell? ⟨w.heap.size+1,1,none⟩=some (.slice (some ⟨b1,oo1,none⟩) ne c1):=t1
  replace t2:(wr.drewN nq).cell? ⟨w.heap.size+1,2,none⟩=some (.slice (some ⟨b2,oo2,none⟩) ne c2):=t2
  replace e0:(wr.drewN nq).cell? ⟨b0,o0+j*6,none⟩=some (.int .i64 a.op):=e0
  replace e1:(wr.drewN nq).cell? ⟨b0,o0+j*6+1,none⟩=some (.int .i64 a.n):=e1
  replace e2:(wr.drewN nq).cell? ⟨b0,o0+j*6+2,none⟩=some (.string a.s):=e2
  replace e3:(wr.drewN nq).cell? ⟨b0,o0+j*6+3,none⟩=some (.string a.name):=e3
  replace e4:(wr.drewN nq).cell? ⟨b0,o0+j*6+4,none⟩=some (.string a.src):=e4
  replace e5:(wr.drewN nq).cell? ⟨b0,o0+j*6+5,none⟩=some (.slice A6 m6 c6):=e5
  replace f1:(wr.drewN nq).cell? ⟨b1,oo1+j,none⟩=some (.int .i64 (bZ a).1):=f1
  replace f2:(wr.drewN nq).cell? ⟨b2,oo2+j,none⟩=some (.int .i64 (bZ a).2):=f2
  generalize wr.drewN nq=W5 at *
  obtain⟨rows,hown,hrlen,tN,uT⟩:=HEq.out.Va
  rw[Hm.out] at hown
  have SH:=ae uT
  have Vu:=ae tN
  have Hrl:=ae hrlen
  clear uT tN hrlen
  have hg2:=HEq.out.but.size
  have hfz:=HEq.out.box.frozen
  have hownA:((W5.drew).alloc (.cells #[.int .i64 a.op,.int .i64 a.n,.string a.s,.string a.name,.string a.src,.slice A6 m6 c6] 55)).ownsRow w2.heap.size 55 6 (.slice Aa m ca) m rows.flatten:=World.ownsRow.alloc (show W5.drew.ownsRow w2.heap.size 55 6 (.slice Aa m ca) m rows.flatten from hown) _
  have Dk:az ((W5.drew).alloc (.cells #[.int .i64 a.op,.int .i64 a.n,.string a.s,.string a.name,.string a.src,.slice A6 m6 c6] 55)) 6 (some ⟨W5.heap.size,0,none⟩) 1 1 [[.int .i64 a.op,.int .i64 a.n,.string a.s,.string a.name,.string a.src,.slice A6 m6 c6]]:=az.nG _ _ 1 (by rfl) rfl (by simp) rfl (by unfold maxLen;omega)
  have hm1:m+1≤maxLen:=by unfold maxLen;omega
  have hm2:(m+1)*88≤140737488355328:=by omega
  have Vw:w2.heap.size≤((W5.drew).alloc (.cells #[.int .i64 a.op,.int .i64 a.n,.string a.s,.string a.name,.string a.src,.slice A6 m6 c6] 55)).heap.size:=by simp;omega
  have hlo:=HEq.out.Va.lo
  have hAl:∀ b,b<w2.heap.size→¬ Aa.map (·.block)=some b:=by
   intro b hb e
   cases Aa with
   | none=>cases e
   | some a2 =>
    have h:=(hlo a2 rfl).1
    simp at e
    omega
  have SY:=ae hAl
  clear hAl hlo
  have Dl:=ae (fun (w3:World) (hb:But (fun k=>Aa.map (·.block)=some k) ((W5.drew).alloc (.cells #[.int .i64 a.op,.int .i64 a.n,.string a.s,.string a.name,.string a.src,.slice A6 m6 c6] 55)) w3) (b:Nat) (hb0:b<w2.heap.size) (i:Nat)=>(hb.cell (p:=⟨b,i,none⟩) (by simp;omega) (SY.out b hb0)).trans (World.cell?_alloc_lt W5.drew _ ⟨b,i,none⟩ (show b<W5.heap.size by omega)))
  have Hf3:=ae (fun (w3:World) (hb:But (fun k=>Aa.map (·.block)=some k) ((W5.drew).alloc (.cells #[.int .i64 a.op,.int .i64 a.n,.string a.s,.string a.name,.string a.src,.slice A6 m6 c6] 55)) w3)=>(((show af W5.drew (w1.heap.size+1) _ _ from HEq.out.box).alloc _).ag (hb.block _ (by simp;omega) (SY.out _ (by omega)))).frozen)
  have Hsn:=ae (sumT_snoc (args.map bZ) (bZ a))
  have Htn:=ae (yh (args.map bZ) (bZ a))
  have ⟨ta0,ta1,ta2,ta3⟩:=kH a
  generalize htl:bZ a=tl at *
  have KE:=ae htl
  clear htl
  have n0:w.heap.size+1≠w1.heap.size+1:=by omega
  have n1:b1≠w1.heap.size+1:=by omega
  have n2:b2≠w1.heap.size+1:=by omega
  go_region_law (refine Dn (base:=w2.heap.size) (xs:=rows) (news:=[[.int .i64 a.op,.int .i64 a.n,.string a.s,.string a.name,.string a.src,.slice A6 m6 c6]]) rfl rfl agL rfl hownA rfl Dk (by simp) (by simp[Value.oneCell']) hm1 hm2 Vw ?_;intro A3' c3' w3 hown3 dB hf3;have aiT:=Hf3.out w3 dB;have z0:=(Dl.out w3 dB _ (by omega) 5).trans y5)
  all_goals
   have z1:=(Dl.out w3 dB (w.heap.size+1) (by omega) 1).trans t1
   have z2:=(Dl.out w3 dB (w.heap.size+1) (by omega) 2).trans t2
   have z3:=(Dl.out w3 dB b1 (by omega) (oo1+j)).trans f1
   have z4:=(Dl.out w3 dB b2 (by omega) (oo2+j)).trans f2
   go_wp2
   all_goals
    have hA:=HEq.out.aol Hm.out (by omega) Hrl.out Vu.out SH.out rfl Hpa.out hown3 dB hf3
    refine HI.out _ _ _ _ _ _ _ _ _ _ _ _ _ _ _ _ _ _ _ _ _ _ _ _ _ _ _ _ _ _ _ _ _ _ _ _ _ _ _ _ _ _ _ _ _ _ _ _ _ _ _ _ ⟨q+1,args++[a],A3',c3',by omega,by omega,by rw[List.length_append,Hm.out];simp<;>omega,?_,?_,by go_num,hA⟩ (by go_num)
    ·rw[List.map_append,List.map_cons,List.map_nil,KE.out,Hsn.out,lK.out,← Int.add_assoc]
    ·rw[List.map_append,List.map_cons,List.map_nil,KE.out,Htn.out,lG.out]<;>first|rw[Dp]|exact congrArg (Value.int .i64) (by omega)
def L8 (w2:World) (g:Nat) (hue:Nat→Nat) (w1:World) (k:Nat) (x:Kn) (Ac:Option Addr) (nc cc:Nat) (exprs:List Ex) (Ae:Option Addr) (ce:Nat) (sE tE:Int) (a9 a10 a11:Value) (wr:World):Prop :=
 ∃ (q:Nat) (body els:List St) (Bb:Option Addr) (db:Nat) (Bl:Option Addr) (dl:Nat),q≤10∧body.length+els.length≤q∧a9=.int .i64 (1+(sE+sumT (body.map aX)+sumT (els.map aX)))∧a10=.int .i64 (max (max tE (iU (body.map aX))) (iU (els.map aX)))∧a11=.int .i64 q∧iW w2 wr g hue w1 k x Ac nc cc exprs body els Ae ce Bb db Bl dl
theorem adn (F:Nat→Prop) (w w1 w2 wr:World) (hue:Nat→Nat) (es:List Ex) (ss:List St) (A0 A1 A2 A3 A4 A5:Option Addr) (c0 c1 c2 c3 c4 c5 k ne:Nat) (x:Kn) (Ac Ax Ab Al:Option Addr) (nc cc nx cx nb cb nl cl q:Nat) (exprs:List Ex) (body els:List St) (Ae:Option Addr) (ce:Nat) (Bb:Option Addr) (db:Nat) (Bl:Option Addr) (dl:Nat) (sE tE:Int) {x0 x1 x2 x3 x4 x6 x7 x8 x9 x10 x11 x12 x18 x19 yj xC vN x24 x25 Fh x27 x28 x29 x30 x31 x32 EC x34 ED Fj Fp x38 x39 x40 x41 vZ x43 wo Fq Fv Fz FB Gi Gj Gl Gm Gn x54 x55 Gp Gq Gs Gt Gu Gv Gw Gx Gy Gz x66 GG GH x69 GI GK GL GM GN GR GU GV GX GY x80 x81 x82 x83 x84 x85 x86 x87 x88 x89 x90 x91 GZ x93 FC x95 x96 FD x98 x99 x100 x101 x102 x103 x104 x105 nH x107 nI nJ nK nM x112 x113 x114 x115 l9 mf mg mi mr mD mF mG mJ nN nO nP nR nS nT nU nV nX nY nZ og oh oq ou oz oC oD qp qw qx qy qA qB qC x150 x151 x152 x153 qE qF qG x157 x158 x159 x160 qH qI qJ qK qL qM x167 x168 qN qO qP qQ qR qU qV qW qX qY qZ rq ru ry rC rD rE rF rG rH rJ sJ sK sN sO sQ sS sU sV sW sZ x200 Ar Au Aw Az AA AB AL AO AP AQ AU AV AX AY AZ Ba Bc Be Bf Bg Bh Bi Bj Bo Bv Bz BA BC BD BF BG BH BI BJ BK BL BM BN BO BQ BR BU BV BX BZ Cb Cc Ce Cf Ci Cj Cm CB CG CJ CO CP CQ CS CU CV CW CX CY CZ C9 yu yw yx yz yA yB yC yD yE yF yG yH yI yJ yK yL yM yN yO yP yQ yR yS yT wE:Value} {I:Act→World→Prop} {Q0:Exit→Act→World→Prop}
  (hF:∀ k,F k→k<w.heap.size) (hW:pK F w w1 hue es ss A0 c0 A1 c1 A2 c2 A3 c3 A4 c4 A5 c5) (hk:ss.length=k) (hne:es.length=ne) (h50:k<50)
  (hkx:ai F w1 1 kD Ax nx cx x.exprs) (hkb:ai F w1 1 kD Ab nb cb x.body) (hkl:ai F w1 1 kD Al nl cl x.els)
  (hw2:w2=(w1.alloc (.cells #[.int .i64 x.op,.string x.name,.string x.src,.int .i64 x.n,.slice Ac nc cc,.slice Ax nx cx,.slice Ab nb cb,.slice Al nl cl] 72)).alloc (.cells #[.int .i64 x.op,.string x.name,.string x.src,.int .i64 x.n,.slice Ac nc cc,.slice none 0 0,.slice none 0 0,.slice none 0 0] 49))
  (hE:iW w2 wr (w1.heap.size+1) hue w1 k x Ac nc cc exprs body els Ae ce Bb db Bl dl) (Vp:q<10) (YA:(q:Int)<wrap64 ((nb:Int)+(nl:Int))) (hqb:q<nb) (hal:body.length+els.length≤q) (hse:0≤sE∧sE≤10000) (hte:1≤tE∧tE≤1001)
  (hI:∀ (Vk Vl y20 y21 y22 NW NY NZ N7 N8 N9 Oa Ob Oc Oe Og Oh Oi Oj Ol Om Oo Oq Ot Ou Ov Ox Oy Oz OA OB OC OD OE OG OH OI OJ OL OM OO OQ OT OU OV OW OX OY OZ O0 O1 O3 O4 O5 O6 O7 O8 O9 Pg Ph Pj Pm Pn Po Pq Pv Px Py Pz PD PG PH PI PK PL PM PN PO PQ PR PT PU:Value) (W:World),L8 w2 (w1.heap.size+1) hue w1 k x Ac nc cc exprs Ae ce sE tE Vk Vl y20 W→y20=.int .i64 ((q+1:Nat):Int)→I ⟨#[x0,x1,x2,x3,x4,.pointer (some ⟨w.heap.size+1,0,none⟩),x6,x7,x8,x9,x10,x11,x12,.int .i64 (k:Int),.pointer (some ⟨w1.heap.size,0,none⟩),.pointer (some ⟨w1.heap.size+1,0,none⟩),Vk,Vl,x18,x19,y20,y21,y22,vN,x24,x25,Fh,x27,x28,x29,x30,x31,x32,EC,x34,ED,Fj,Fp,x38,x39,x40,x41,vZ,x43,wo,Fq,Fv,Fz,FB,Gi,Gj,Gl,Gm,Gn,x54,x55,Gp,Gq,Gs,Gt,Gu,Gv,Gw,Gx,Gy,Gz,x66,GG,GH,x69,GI,GK,GL,GM,GN,GR,GU,GV,GX,GY,x80,x81,x82,x83,x84,x85,x86,x87,x88,x89,x90,x91,GZ,x93,FC,x95,x96,FD,x98,x99,x100,x101,x102,x103,x104,x105,nH,x107,nI,nJ,nK,nM,x112,x113,x114,x115,l9,mf,mg,mi,mr,mD,mF,mG,mJ,nN,nO,nP,nR,nS,nT,nU,nV,nX,nY,nZ,og,oh,oq,ou,oz,oC,oD,qp,qw,qx,qy,qA,qB,qC,x150,x151,x152,x153,qE,qF,qG,x157,x158,x159,x160,qH,qI,qJ,qK,qL,qM,x167,x168,qN,qO,qP,qQ,qR,qU,qV,qW,qX,qY,qZ,rq,ru,ry,rC,rD,rE,rF,rG,rH,rJ,NW,NY,NZ,N7,N8,N9,Oa,Ob,Oc,Oe,Og,Oh,Oi,Oj,Ol,Om,Oo,Oq,Ot,Ou,Ov,Ox,Oy,Oz,OA,OB,OC,OD,OE,OG,OH,OI,OJ,OL,OM,OO,OQ,OT,OU,OV,OW,OX,OY,OZ,O0,O1,O3,O4,O5,O6,O7,O8,O9,Pg,Ph,Pj,Pm,Pn,Po,Pq,Pv,Px,Py,Pz,PD,PG,PH,PI,PK,PL,PM,PN,PO,PQ,PR,PT,PU,yu,yw,yx,yz,yA,yB,yC,yD,yE,yF,yG,yH,yI,yJ,yK,yL,yM,yN,yO,yP,yQ,yR,yS,yT,wE],[]⟩ W) :
  Code.wp Tryz.prog (NK 35) (Exit.then I (kM Q0)) ⟨#[x0,x1,x2,x3,x4,.pointer (some ⟨w.heap.size+1,0,none⟩),x6,x7,x8,x9,x10,x11,x12,.int .i64 (k:Int),.pointer (some ⟨w1.heap.size,0,none⟩),.pointer (some ⟨w1.heap.size+1,0,none⟩),.int .i64 (1+(sE+sumT (body.map aX)+sumT (els.map aX))),.int .i64 (max (max tE (iU (body.map aX))) (iU (els.map aX))),x18,x19,.int .i64 (q:Int),yj,xC,vN,x24,x25,Fh,x27,x28,x29,x30,x31,x32,EC,x34,ED,Fj,Fp,x38,x39,x40,x41,vZ,x43,wo,Fq,Fv,Fz,FB,Gi,Gj,Gl,Gm,Gn,x54,x55,Gp,Gq,Gs,Gt,Gu,Gv,Gw,Gx,Gy,Gz,x66,GG,GH,x69,GI,GK,GL,GM,GN,GR,GU,GV,GX,GY,x80,x81,x82,x83,x84,x85,x86,x87,x88,x89,x90,x91,GZ,x93,FC,x95,x96,FD,x98,x99,x100,x101,x102,x103,x104,x105,nH,x107,nI,nJ,nK,nM,x112,x113,x114,x115,l9,mf,mg,mi,mr,mD,mF,mG,mJ,nN,nO,nP,nR,nS,nT,nU,nV,nX,nY,nZ,og,oh,oq,ou,oz,oC,oD,qp,qw,qx,qy,qA,qB,qC,x150,x151,x152,x153,qE,qF,qG,x157,x158,x159,x160,qH,qI,qJ,qK,qL,qM,x167,x168,qN,qO,qP,qQ,qR,qU,qV,qW,qX,qY,qZ,rq,ru,ry,rC,rD,rE,rF,rG,rH,rJ,sJ,sK,sN,sO,sQ,sS,sU,sV,sW,sZ,x200,Ar,Au,Aw,Az,AA,AB,AL,AO,AP,AQ,AU,AV,AX,AY,AZ,Ba,Bc,Be,Bf,Bg,Bh,Bi,Bj,Bo,Bv,Bz,BA,BC,BD,BF,BG,BH,BI,BJ,BK,BL,BM,BN,BO,BQ,BR,BU,BV,BX,BZ,Cb,Cc,Ce,Cf,Ci,Cj,Cm,CB,CG,CJ,CO,CP,CQ,CS,CU,CV,CW,CX,CY,CZ,C9,yu,yw,yx,yz,yA,yB,yC,yD,yE,yF,yG,yH,yI,yJ,yK,yL,yM,yN,yO,yP,yQ,yR,yS,yT,wE],[]⟩ wr:=by
 conv=>arg 2;whnf
 have HI:=ae hI
 clear hI
 have Hk:=ae hk
 clear hk
 have JZ:=ae hne
 clear hne
 have HW:=ae hW
 clear hW
 have ZZ:ne≤50:=by rw[← JZ.out];exact HW.out.few
 have hb2:Below w1.heap.size w1 w2:=by rw[hw2];exact((Below.refl _ _).alloc (Nat.le_refl _) _).alloc (by simp) _
 have hz2:w2.heap.size=w1.heap.size+2:=by rw[hw2];simp
 have hx2:af w2 w1.heap.size 72 #[.int .i64 x.op,.string x.name,.string x.src,.int .i64 x.n,.slice Ac nc cc,.slice Ax nx cx,.slice Ab nb cb,.slice Al nl cl]:=by rw[hw2];exact(af.laid _ _ _).alloc _
 clear hw2
 have hnx:=hkx.gu
 have hnb:=hkb.gu
 have hnl:=hkl.gu
 have hbw:=HW.out.low.size
 have hbt:=HW.out.box.lt
 have KD:=ae (fun W (hW:But (fun b=>b=w1.heap.size+1) w2 W)=>hx2.ag (hW.block _ hx2.lt (by omega)))
 have NT:=ae (fun W (hW:But (fun b=>b=w1.heap.size+1) w2 W)=>HW.out.box.ag ((hW.block _ (Nat.lt_of_lt_of_le hbt hb2.size) (by omega)).trans (hb2.block _ hbt)))
 have Kp:=ae (fun W (hW:But (fun b=>b=w1.heap.size+1) w2 W)=>(Kept.of_below hb2).trans (Kept.aN (F:=F) hW (fun b hb=>by have:=hF b hb;omega)))
 have HR2:=ae (fun W (hW:But (fun b=>b=w1.heap.size+1) w2 W) b (hb:b<w1.heap.size)=>(hW.block b (Nat.lt_of_lt_of_le hb hb2.size) (by omega)).trans (hb2.block b hb))
 have Wx:=ae hkx
 have Z4:=ae hkb
 have Hkl:=ae hkl
 rw[Hk.out,JZ.out] at NT
 clear hx2 hkx hkb hkl
 obtain⟨N,hN,HN⟩:∃ N:Int,wrap64 ((nb:Int)+(nl:Int))=N∧Hid (∀ q:Nat,(q:Int)<N→q<nb+nl):=⟨_,rfl,ae (fun _ hq=>RX hnb hnl hq)⟩
 rw[hN] at YA
 have HE:=ae hE
 have hbb:=uy (args:=body) (by omega)
 have L9:=uy (args:=els) (by omega)
 have htb:=ng (l:=body.map aX) (fun t ht=>by obtain⟨a,_,rfl⟩:=List.mem_map.1 ht;exact iy a)
 have Z5:=ng (l:=els.map aX) (fun t ht=>by obtain⟨a,_,rfl⟩:=List.mem_map.1 ht;exact iy a)
 obtain⟨hsum,htop,hsb,Z7,lK,lG⟩:∃ hsum htop:Int,(0≤hsum∧hsum≤30000)∧(1≤htop∧htop≤1001)∧Hid (sE+sumT (body.map aX)+sumT (els.map aX)=hsum)∧Hid (max (max tE (iU (body.map aX))) (iU (els.map aX))=htop) :=
  ⟨_,_,by omega,by omega,rfl,rfl⟩
 clear hbb L9 htb Z5
 obtain⟨hs0,hs1⟩:=hsb
 obtain⟨ht0,ht1⟩:=Z7
 rw[lK.out,lG.out]
 generalize hmb:body.length=mB at *
 have PV:=ae hmb
 generalize hml:els.length=mL at *
 have Z8:=ae hml
 clear hmb hml hE
 obtain⟨l0,l1,l2,l3,l4,l5,l6,l7,ll⟩:=pU (KD.out _ HE.out.but)
 obtain⟨t0,t1,t2,t3,t4,t5,tl⟩:=dP (NT.out _ HE.out.but)
 have hd3:decide ((q:Int)<N)=true:=by simpa using YA
 have hd4:decide ((q:Int)<10)=true:=by simp;omega
 have aop:=HN.out q YA
 have hd5:decide ((q:Int)<(nb:Int))=true:=by simp;omega
 obtain⟨bk,ok,rk,v,rfl,hbk,_,_,_,hv,hcv⟩:=(Z4.out.kept (Kp.out _ HE.out.but)).get hqb
 obtain⟨rfl,okv⟩:=hv
 have hcv:=hcv 0 _ rfl
 rw[Nat.mul_one,Nat.add_zero] at hcv
 by_cases hk0:k=0
 ·have SC:=ae hk0
  clear hk0
  go_wp2_with (go_at_call 24;refine(xE v k _ SC.out).mono ?_;rintro e w' ⟨rfl,rfl⟩)
  exact HI.out _ _ _ _ _ _ _ _ _ _ _ _ _ _ _ _ _ _ _ _ _ _ _ _ _ _ _ _ _ _ _ _ _ _ _ _ _ _ _ _ _ _ _ _ _ _ _ _ _ _ _ _ _ _ _ _ _ _ _ _ _ _ _ _ _ _ _ _ _ _ _ _ _ _ _ _ _ _ _ _ _ _ _ ⟨q+1,body,els,Bb,db,Bl,dl,by omega,by have:=PV.out;have:=Z8.out;omega,by rw[lK.out],by rw[lG.out],by go_num,HE.out⟩ (by go_num)
 ·obtain⟨j,Hj⟩:∃ j,Hid (zi v k=j):=⟨_,rfl⟩
  have hjk:j<k:=by rw[← Hj.out];exact wI v k (by omega)
  have hpk:=fun W=>yg v k W (by omega) (by omega)
  rw[Hj.out] at hpk
  have Hpk:=ae hpk
  clear hpk hk0
  obtain⟨b0,b1,b2,re,a,rfl,rfl,rfl,hb0,hb1,hb2',haj,hrl2,hpa,hca,hcn,hcd,hu0,hu1,hu2⟩:=HW.out.tri.get (k:=j) (by rw[Hk.out];exact hjk)
  obtain⟨p1,p2,p3,p4,yX,zx,yY,zy,zA,zB,xI,xJ,cb2,zC,zD,zF,rfl,h6⟩:=hpa
  have Hpa:Hid (PS hue w1 j [.int .i64 a.op,.string a.name,.string a.src,.int .i64 a.n,.slice yX zx yY,.slice zy zA zB,.slice xI xJ cb2,.slice zC zD zF] a):=ae ⟨p1,p2,p3,p4,yX,zx,yY,zy,zA,zB,xI,xJ,cb2,zC,zD,zF,rfl,h6⟩
  clear h6
  have hR:=fun b hb i=>World.cell?_of_block (a:=⟨b,i,none⟩) (HR2.out wr HE.out.but b hb)
  have e0:=(hR b0 hb0 _).trans (hca 0 _ rfl)
  have e1:=(hR b0 hb0 _).trans (hca 1 _ rfl)
  have e2:=(hR b0 hb0 _).trans (hca 2 _ rfl)
  have e3:=(hR b0 hb0 _).trans (hca 3 _ rfl)
  have e4:=(hR b0 hb0 _).trans (hca 4 _ rfl)
  have e5:=(hR b0 hb0 _).trans (hca 5 _ rfl)
  have e6:=(hR b0 hb0 _).trans (hca 6 _ rfl)
  have e7:=(hR b0 hb0 _).trans (hca 7 _ rfl)
  have f1:=(hR b1 hb1 _).trans hcn
  have f2:=(hR b2 hb2' _).trans hcd
  rw[Nat.add_zero] at e0
  clear hR hca hcn hcd
  obtain⟨y0,y1,y2,y3,y4,y5,y6,y7,yl⟩:=pU HE.out.box
  rw[PV.out] at y6
  obtain⟨rows,hown,hrlen,tN,uT⟩:=HE.out.RY
  rw[PV.out] at hown
  have SH:=ae uT
  have Vu:=ae tN
  have Hrl:=ae hrlen
  clear uT tN hrlen
  have hg2:=HE.out.but.size
  have hfz:=HE.out.box.frozen
  have hownA:(wr.drew.alloc (.cells #[.int .i64 a.op,.string a.name,.string a.src,.int .i64 a.n,.slice yX zx yY,.slice zy zA zB,.slice xI xJ cb2,.slice zC zD zF] 49)).ownsRow w2.heap.size 49 8 (.slice Bb mB db) mB rows.flatten:=World.ownsRow.alloc (show wr.drew.ownsRow w2.heap.size 49 8 (.slice Bb mB db) mB rows.flatten from hown) _
  have Dk:az (wr.drew.alloc (.cells #[.int .i64 a.op,.string a.name,.string a.src,.int .i64 a.n,.slice yX zx yY,.slice zy zA zB,.slice xI xJ cb2,.slice zC zD zF] 49)) 8 (some ⟨wr.heap.size,0,none⟩) 1 1 [[.int .i64 a.op,.string a.name,.string a.src,.int .i64 a.n,.slice yX zx yY,.slice zy zA zB,.slice xI xJ cb2,.slice zC zD zF]]:=az.nG _ _ 1 (by rfl) rfl (by simp) rfl (by unfold maxLen;omega)
  have hm1:mB+1≤maxLen:=by unfold maxLen;omega
  have hm2:(mB+1)*144≤140737488355328:=by omega
  have Vw:w2.heap.size≤(wr.drew.alloc (.cells #[.int .i64 a.op,.string a.name,.string a.src,.int .i64 a.n,.slice yX zx yY,.slice zy zA zB,.slice xI xJ cb2,.slice zC zD zF] 49)).heap.size:=by simp;omega
  have hlo:=HE.out.RY.lo
  have hAl:∀ b,b<w2.heap.size→¬ Bb.map (·.block)=some b:=by
   intro b hb e
   cases Bb with
   | none=>cases e
   | some a2 =>
    have h:=(hlo a2 rfl).1
    simp at e
    omega
  have SY:=ae hAl
  clear hAl hlo
  have Dl:=ae (fun (w3:World) (hb:But (fun k=>Bb.map (·.block)=some k) (wr.drew.alloc (.cells #[.int .i64 a.op,.string a.name,.string a.src,.int .i64 a.n,.slice yX zx yY,.slice zy zA zB,.slice xI xJ cb2,.slice zC zD zF] 49)) w3) (b:Nat) (hb0:b<w2.heap.size) (i:Nat)=>(hb.cell (p:=⟨b,i,none⟩) (by simp;omega) (SY.out b hb0)).trans (World.cell?_alloc_lt wr.drew _ ⟨b,i,none⟩ (show b<wr.heap.size by omega)))
  have Hf3:=ae (fun (w3:World) (hb:But (fun k=>Bb.map (·.block)=some k) (wr.drew.alloc (.cells #[.int .i64 a.op,.string a.name,.string a.src,.int .i64 a.n,.slice yX zx yY,.slice zy zA zB,.slice xI xJ cb2,.slice zC zD zF] 49)) w3)=>(((show af wr.drew (w1.heap.size+1) _ _ from HE.out.box).alloc _).ag (hb.block _ (by simp;omega) (SY.out _ (by omega)))).frozen)
  have Hsn:=ae (sumT_snoc (body.map aX) (aX a))
  have Htn:=ae (yh (body.map aX) (aX a))
  have ⟨ta0,ta1,ta2,ta3⟩:=iy a
  generalize htl:aX a=tl' at *
  have KE:=ae htl
  clear htl
  obtain⟨mx,hmx,QF⟩:∃ mx,(if htop<tl'.2+1 then tl'.2+1 else htop)=mx∧Hid (max htop (tl'.2+1)=mx):=⟨_,rfl,(Dp _ _).symm⟩
  go_wp2_with (go_at_call 24;refine(Hpk.out _).mono ?_;rintro e w' ⟨rfl,rfl⟩)
  go_region_law (refine Dn (base:=w2.heap.size) (xs:=rows) (news:=[[.int .i64 a.op,.string a.name,.string a.src,.int .i64 a.n,.slice yX zx yY,.slice zy zA zB,.slice xI xJ cb2,.slice zC zD zF]]) rfl rfl Vq rfl hownA rfl Dk (by simp) (by simp[Value.oneCell']) hm1 hm2 Vw ?_;intro A3' c3' w3 hown3 dB hf3;have aiT:=Hf3.out w3 dB;have z0:=(Dl.out w3 dB _ (by omega) 6).trans y6)
  all_goals
   go_wp2
   have hA:=HE.out.aom PV.out (by omega) Hrl.out Vu.out SH.out rfl (bQ.conv (fun _ h=>h) (Kept.refl _ _) _ (by omega) Hpa.out) hown3 dB hf3
   refine HI.out _ _ _ _ _ _ _ _ _ _ _ _ _ _ _ _ _ _ _ _ _ _ _ _ _ _ _ _ _ _ _ _ _ _ _ _ _ _ _ _ _ _ _ _ _ _ _ _ _ _ _ _ _ _ _ _ _ _ _ _ _ _ _ _ _ _ _ _ _ _ _ _ _ _ _ _ _ _ _ _ _ _ _ ⟨q+1,body++[a],els,A3',c3',Bl,dl,by omega,by rw[List.length_append,PV.out,Z8.out];simp;omega,?_,?_,by go_num,hA⟩ (by go_num)
   ·rw[List.map_append,List.map_cons,List.map_nil,KE.out,Hsn.out]
    have h:=lK.out
    exact congrArg (Value.int .i64) (by omega)
   ·rw[List.map_append,List.map_cons,List.map_nil,KE.out,Htn.out]
    have h:=lG.out
    have h2:=QF.out
    clear hmx
    exact congrArg (Value.int .i64) (by omega)
theorem ado (F:Nat→Prop) (w w1 w2 wr:World) (hue:Nat→Nat) (es:List Ex) (ss:List St) (A0 A1 A2 A3 A4 A5:Option Addr) (c0 c1 c2 c3 c4 c5 k ne:Nat) (x:Kn) (Ac Ax Ab Al:Option Addr) (nc cc nx cx nb cb nl cl q:Nat) (exprs:List Ex) (body els:List St) (Ae:Option Addr) (ce:Nat) (Bb:Option Addr) (db:Nat) (Bl:Option Addr) (dl:Nat) (sE tE:Int) {x0 x1 x2 x3 x4 x6 x7 x8 x9 x10 x11 x12 x18 x19 yj xC vN x24 x25 Fh x27 x28 x29 x30 x31 x32 EC x34 ED Fj Fp x38 x39 x40 x41 vZ x43 wo Fq Fv Fz FB Gi Gj Gl Gm Gn x54 x55 Gp Gq Gs Gt Gu Gv Gw Gx Gy Gz x66 GG GH x69 GI GK GL GM GN GR GU GV GX GY x80 x81 x82 x83 x84 x85 x86 x87 x88 x89 x90 x91 GZ x93 FC x95 x96 FD x98 x99 x100 x101 x102 x103 x104 x105 nH x107 nI nJ nK nM x112 x113 x114 x115 l9 mf mg mi mr mD mF mG mJ nN nO nP nR nS nT nU nV nX nY nZ og oh oq ou oz oC oD qp qw qx qy qA qB qC x150 x151 x152 x153 qE qF qG x157 x158 x159 x160 qH qI qJ qK qL qM x167 x168 qN qO qP qQ qR qU qV qW qX qY qZ rq ru ry rC rD rE rF rG rH rJ sJ sK sN sO sQ sS sU sV sW sZ x200 Ar Au Aw Az AA AB AL AO AP AQ AU AV AX AY AZ Ba Bc Be Bf Bg Bh Bi Bj Bo Bv Bz BA BC BD BF BG BH BI BJ BK BL BM BN BO BQ BR BU BV BX BZ Cb Cc Ce Cf Ci Cj Cm CB CG CJ CO CP CQ CS CU CV CW CX CY CZ C9 yu yw yx yz yA yB yC yD yE yF yG yH yI yJ yK yL yM yN yO yP yQ yR yS yT wE:Value} {I:Act→World→Prop} {Q0:Exit→Act→World→Prop}
  (hF:∀ k,F k→k<w.heap.size) (hW:pK F w w1 hue es ss A0 c0 A1 c1 A2 c2 A3 c3 A4 c4 A5 c5) (hk:ss.length=k) (hne:es.length=ne) (h50:k<50)
  (hkx:ai F w1 1 kD Ax nx cx x.exprs) (hkb:ai F w1 1 kD Ab nb cb x.body) (hkl:ai F w1 1 kD Al nl cl x.els)
  (hw2:w2=(w1.alloc (.cells #[.int .i64 x.op,.string x.name,.string x.src,.int .i64 x.n,.slice Ac nc cc,.slice Ax nx cx,.slice Ab nb cb,.slice Al nl cl] 72)).alloc (.cells #[.int .i64 x.op,.string x.name,.string x.src,.int .i64 x.n,.slice Ac nc cc,.slice none 0 0,.slice none 0 0,.slice none 0 0] 49))
  (hE:iW w2 wr (w1.heap.size+1) hue w1 k x Ac nc cc exprs body els Ae ce Bb db Bl dl) (Vp:q<10) (YA:(q:Int)<wrap64 ((nb:Int)+(nl:Int))) (hqb:¬ q<nb) (hal:body.length+els.length≤q) (hse:0≤sE∧sE≤10000) (hte:1≤tE∧tE≤1001)
  (hI:∀ (Vk Vl y20 y21 y22 NW NY NZ N7 N8 N9 Oa Ob Oc Oe Og Oh Oi Oj Ol Om Oo Oq Ot Ou Ov Ox Oy Oz OA OB OC OD OE OG OH OI OJ OL OM OO OQ OT OU OV OW OX OY OZ O0 O1 O3 O4 O5 O6 O7 O8 O9 Pg Ph Pj Pm Pn Po Pq Pv Px Py Pz PD PG PH PI PK PL PM PN PO PQ PR PT PU:Value) (W:World),L8 w2 (w1.heap.size+1) hue w1 k x Ac nc cc exprs Ae ce sE tE Vk Vl y20 W→y20=.int .i64 ((q+1:Nat):Int)→I ⟨#[x0,x1,x2,x3,x4,.pointer (some ⟨w.heap.size+1,0,none⟩),x6,x7,x8,x9,x10,x11,x12,.int .i64 (k:Int),.pointer (some ⟨w1.heap.size,0,none⟩),.pointer (some ⟨w1.heap.size+1,0,none⟩),Vk,Vl,x18,x19,y20,y21,y22,vN,x24,x25,Fh,x27,x28,x29,x30,x31,x32,EC,x34,ED,Fj,Fp,x38,x39,x40,x41,vZ,x43,wo,Fq,Fv,Fz,FB,Gi,Gj,Gl,Gm,Gn,x54,x55,Gp,Gq,Gs,Gt,Gu,Gv,Gw,Gx,Gy,Gz,x66,GG,GH,x69,GI,GK,GL,GM,GN,GR,GU,GV,GX,GY,x80,x81,x82,x83,x84,x85,x86,x87,x88,x89,x90,x91,GZ,x93,FC,x95,x96,FD,x98,x99,x100,x101,x102,x103,x104,x105,nH,x107,nI,nJ,nK,nM,x112,x113,x114,x115,l9,mf,mg,mi,mr,mD,mF,mG,mJ,nN,nO,nP,nR,nS,nT,nU,nV,nX,nY,nZ,og,oh,oq,ou,oz,oC,oD,qp,qw,qx,qy,qA,qB,qC,x150,x151,x152,x153,qE,qF,qG,x157,x158,x159,x160,qH,qI,qJ,qK,qL,qM,x167,x168,qN,qO,qP,qQ,qR,qU,qV,qW,qX,qY,qZ,rq,ru,ry,rC,rD,rE,rF,rG,rH,rJ,NW,NY,NZ,N7,N8,N9,Oa,Ob,Oc,Oe,Og,Oh,Oi,Oj,Ol,Om,Oo,Oq,Ot,Ou,Ov,Ox,Oy,Oz,OA,OB,OC,OD,OE,OG,OH,OI,OJ,OL,OM,OO,OQ,OT,OU,OV,OW,OX,OY,OZ,O0,O1,O3,O4,O5,O6,O7,O8,O9,Pg,Ph,Pj,Pm,Pn,Po,Pq,Pv,Px,Py,Pz,PD,PG,PH,PI,PK,PL,PM,PN,PO,PQ,PR,PT,PU,yu,yw,yx,yz,yA,yB,yC,yD,yE,yF,yG,yH,yI,yJ,yK,yL,yM,yN,yO,yP,yQ,yR,yS,yT,wE],[]⟩ W) :
  Code.wp Tryz.prog (NK 35) (Exit.then I (kM Q0)) ⟨#[x0,x1,x2,x3,x4,.pointer (some ⟨w.heap.size+1,0,none⟩),x6,x7,x8,x9,x10,x11,x12,.int .i64 (k:Int),.pointer (some ⟨w1.heap.size,0,none⟩),.pointer (some ⟨w1.heap.size+1,0,none⟩),.int .i64 (1+(sE+sumT (body.map aX)+sumT (els.map aX))),.int .i64 (max (max tE (iU (body.map aX))) (iU (els.map aX))),x18,x19,.int .i64 (q:Int),yj,xC,vN,x24,x25,Fh,x27,x28,x29,x30,x31,x32,EC,x34,ED,Fj,Fp,x38,x39,x40,x41,vZ,x43,wo,Fq,Fv,Fz,FB,Gi,Gj,Gl,Gm,Gn,x54,x55,Gp,Gq,Gs,Gt,Gu,Gv,Gw,Gx,Gy,Gz,x66,GG,GH,x69,GI,GK,GL,GM,GN,GR,GU,GV,GX,GY,x80,x81,x82,x83,x84,x85,x86,x87,x88,x89,x90,x91,GZ,x93,FC,x95,x96,FD,x98,x99,x100,x101,x102,x103,x104,x105,nH,x107,nI,nJ,nK,nM,x112,x113,x114,x115,l9,mf,mg,mi,mr,mD,mF,mG,mJ,nN,nO,nP,nR,nS,nT,nU,nV,nX,nY,nZ,og,oh,oq,ou,oz,oC,oD,qp,qw,qx,qy,qA,qB,qC,x150,x151,x152,x153,qE,qF,qG,x157,x158,x159,x160,qH,qI,qJ,qK,qL,qM,x167,x168,qN,qO,qP,qQ,qR,qU,qV,qW,qX,qY,qZ,rq,ru,ry,rC,rD,rE,rF,rG,rH,rJ,sJ,sK,sN,sO,sQ,sS,sU,sV,sW,sZ,x200,Ar,Au,Aw,Az,AA,AB,AL,AO,AP,AQ,AU,AV,AX,AY,AZ,Ba,Bc,Be,Bf,Bg,Bh,Bi,Bj,Bo,Bv,Bz,BA,BC,BD,BF,BG,BH,BI,BJ,BK,BL,BM,BN,BO,BQ,BR,BU,BV,BX,BZ,Cb,Cc,Ce,Cf,Ci,Cj,Cm,CB,CG,CJ,CO,CP,CQ,CS,CU,CV,CW,CX,CY,CZ,C9,yu,yw,yx,yz,yA,yB,yC,yD,yE,yF,yG,yH,yI,yJ,yK,yL,yM,yN,yO,yP,yQ,yR,yS,yT,wE],[]⟩ wr:=by
 conv=>arg 2;whnf
 have HI:=ae hI
 clear hI
 have Hk:=ae hk
 clear hk
 have JZ:=ae hne
 clear hne
 have HW:=ae hW
 clear hW
 have ZZ:ne≤50:=by rw[← JZ.out];exact HW.out.few
 have hb2:Below w1.heap.size w1 w2:=by rw[hw2];exact((Below.refl _ _).alloc (Nat.le_refl _) _).alloc (by simp) _
 have hz2:w2.heap.size=w1.heap.size+2:=by rw[hw2];simp
 have hx2:af w2 w1.heap.size 72 #[.int .i64 x.op,.string x.name,.string x.src,.int .i64 x.n,.slice Ac nc cc,.slice Ax nx cx,.slice Ab nb cb,.slice Al nl cl]:=by rw[hw2];exact(af.laid _ _ _).alloc _
 clear hw2
 have hnx:=hkx.gu
 have hnb:=hkb.gu
 have hnl:=hkl.gu
 have hbw:=HW.out.low.size
 have hbt:=HW.out.box.lt
 have KD:=ae (fun W (hW:But (fun b=>b=w1.heap.size+1) w2 W)=>hx2.ag (hW.block _ hx2.lt (by omega)))
 have NT:=ae (fun W (hW:But (fun b=>b=w1.heap.size+1) w2 W)=>HW.out.box.ag ((hW.block _ (Nat.lt_of_lt_of_le hbt hb2.size) (by omega)).trans (hb2.block _ hbt)))
 have Kp:=ae (fun W (hW:But (fun b=>b=w1.heap.size+1) w2 W)=>(Kept.of_below hb2).trans (Kept.aN (F:=F) hW (fun b hb=>by have:=hF b hb;omega)))
 have HR2:=ae (fun W (hW:But (fun b=>b=w1.heap.size+1) w2 W) b (hb:b<w1.heap.size)=>(hW.block b (Nat.lt_of_lt_of_le hb hb2.size) (by omega)).trans (hb2.block b hb))
 have Wx:=ae hkx
 have Z4:=ae hkb
 have Hkl:=ae hkl
 rw[Hk.out,JZ.out] at NT
 clear hx2 hkx hkb hkl
 obtain⟨N,hN,HN⟩:∃ N:Int,wrap64 ((nb:Int)+(nl:Int))=N∧Hid (∀ q:Nat,(q:Int)<N→q<nb+nl):=⟨_,rfl,ae (fun _ hq=>RX hnb hnl hq)⟩
 rw[hN] at YA
 have HE:=ae hE
 have hbb:=uy (args:=body) (by omega)
 have L9:=uy (args:=els) (by omega)
 have htb:=ng (l:=body.map aX) (fun t ht=>by obtain⟨a,_,rfl⟩:=List.mem_map.1 ht;exact iy a)
 have Z5:=ng (l:=els.map aX) (fun t ht=>by obtain⟨a,_,rfl⟩:=List.mem_map.1 ht;exact iy a)
 obtain⟨hsum,htop,hsb,Z7,lK,lG⟩:∃ hsum htop:Int,(0≤hsum∧hsum≤30000)∧(1≤htop∧htop≤1001)∧Hid (sE+sumT (body.map aX)+sumT (els.map aX)=hsum)∧Hid (max (max tE (iU (body.map aX))) (iU (els.map aX))=htop) :=
  ⟨_,_,by omega,by omega,rfl,rfl⟩
 clear hbb L9 htb Z5
 obtain⟨hs0,hs1⟩:=hsb
 obtain⟨ht0,ht1⟩:=Z7
 rw[lK.out,lG.out]
 generalize hmb:body.length=mB at *
 have PV:=ae hmb
 generalize hml:els.length=mL at *
 have Z8:=ae hml
 clear hmb hml hE
 obtain⟨l0,l1,l2,l3,l4,l5,l6,l7,ll⟩:=pU (KD.out _ HE.out.but)
 obtain⟨t0,t1,t2,t3,t4,t5,tl⟩:=dP (NT.out _ HE.out.but)
 have hd3:decide ((q:Int)<N)=true:=by simpa using YA
 have hd4:decide ((q:Int)<10)=true:=by simp;omega
 have aop:=HN.out q YA
 have hd5:decide ((q:Int)<(nb:Int))=false:=by simp;omega
 have arv:nb≤q:=by omega
 have apy:(nb:Int)≤(q:Int):=by omega
 obtain⟨q2,Hq2⟩:∃ q2,Hid (q=nb+q2):=⟨q-nb,ae (by omega)⟩
 have hq2:q2<nl:=by have:=Hq2.out;omega
 have hqs:(q:Int)-(nb:Int)=(q2:Int):=by have:=Hq2.out;omega
 obtain⟨bk,ok,rk,v,rfl,hbk,_,_,_,hv,hcv⟩:=(Hkl.out.kept (Kp.out _ HE.out.but)).get hq2
 obtain⟨rfl,okv⟩:=hv
 have hcv:=hcv 0 _ rfl
 rw[Nat.mul_one,Nat.add_zero] at hcv
 by_cases hk0:k=0
 ·have SC:=ae hk0
  clear hk0
  go_wp2_with (go_at_call 24;refine(xE v k _ SC.out).mono ?_;rintro e w' ⟨rfl,rfl⟩)
  exact HI.out _ _ _ _ _ _ _ _ _ _ _ _ _ _ _ _ _ _ _ _ _ _ _ _ _ _ _ _ _ _ _ _ _ _ _ _ _ _ _ _ _ _ _ _ _ _ _ _ _ _ _ _ _ _ _ _ _ _ _ _ _ _ _ _ _ _ _ _ _ _ _ _ _ _ _ _ _ _ _ _ _ _ _ ⟨q+1,body,els,Bb,db,Bl,dl,by omega,by have:=PV.out;have:=Z8.out;omega,by rw[lK.out],by rw[lG.out],by go_num,HE.out⟩ (by go_num)
 ·obtain⟨j,Hj⟩:∃ j,Hid (zi v k=j):=⟨_,rfl⟩
  have hjk:j<k:=by rw[← Hj.out];exact wI v k (by omega)
  have hpk:=fun W=>yg v k W (by omega) (by omega)
  rw[Hj.out] at hpk
  have Hpk:=ae hpk
  clear hpk hk0
  obtain⟨b0,b1,b2,re,a,rfl,rfl,rfl,hb0,hb1,hb2',haj,hrl2,hpa,hca,hcn,hcd,hu0,hu1,hu2⟩:=HW.out.tri.get (k:=j) (by rw[Hk.out];exact hjk)
  obtain⟨p1,p2,p3,p4,yX,zx,yY,zy,zA,zB,xI,xJ,cb2,zC,zD,zF,rfl,h6⟩:=hpa
  have Hpa:Hid (PS hue w1 j [.int .i64 a.op,.string a.name,.string a.src,.int .i64 a.n,.slice yX zx yY,.slice zy zA zB,.slice xI xJ cb2,.slice zC zD zF] a):=ae ⟨p1,p2,p3,p4,yX,zx,yY,zy,zA,zB,xI,xJ,cb2,zC,zD,zF,rfl,h6⟩
  clear h6
  have hR:=fun b hb i=>World.cell?_of_block (a:=⟨b,i,none⟩) (HR2.out wr HE.out.but b hb)
  have e0:=(hR b0 hb0 _).trans (hca 0 _ rfl)
  have e1:=(hR b0 hb0 _).trans (hca 1 _ rfl)
  have e2:=(hR b0 hb0 _).trans (hca 2 _ rfl)
  have e3:=(hR b0 hb0 _).trans (hca 3 _ rfl)
  have e4:=(hR b0 hb0 _).trans (hca 4 _ rfl)
  have e5:=(hR b0 hb0 _).trans (hca 5 _ rfl)
  have e6:=(hR b0 hb0 _).trans (hca 6 _ rfl)
  have e7:=(hR b0 hb0 _).trans (hca 7 _ rfl)
  have f1:=(hR b1 hb1 _).trans hcn
  have f2:=(hR b2 hb2' _).trans hcd
  rw[Nat.add_zero] at e0
  clear hR hca hcn hcd
  obtain⟨y0,y1,y2,y3,y4,y5,y6,y7,yl⟩:=pU HE.out.box
  rw[Z8.out] at y7
  obtain⟨rows,hown,hrlen,tN,uT⟩:=HE.out.els
  rw[Z8.out] at hown
  have SH:=ae uT
  have Vu:=ae tN
  have Hrl:=ae hrlen
  clear uT tN hrlen
  have hg2:=HE.out.but.size
  have hfz:=HE.out.box.frozen
  have hownA:(wr.drew.alloc (.cells #[.int .i64 a.op,.string a.name,.string a.src,.int .i64 a.n,.slice yX zx yY,.slice zy zA zB,.slice xI xJ cb2,.slice zC zD zF] 49)).ownsRow w2.heap.size 49 8 (.slice Bl mL dl) mL rows.flatten:=World.ownsRow.alloc (show wr.drew.ownsRow w2.heap.size 49 8 (.slice Bl mL dl) mL rows.flatten from hown) _
  have Dk:az (wr.drew.alloc (.cells #[.int .i64 a.op,.string a.name,.string a.src,.int .i64 a.n,.slice yX zx yY,.slice zy zA zB,.slice xI xJ cb2,.slice zC zD zF] 49)) 8 (some ⟨wr.heap.size,0,none⟩) 1 1 [[.int .i64 a.op,.string a.name,.string a.src,.int .i64 a.n,.slice yX zx yY,.slice zy zA zB,.slice xI xJ cb2,.slice zC zD zF]]:=az.nG _ _ 1 (by rfl) rfl (by simp) rfl (by unfold maxLen;omega)
  have hm1:mL+1≤maxLen:=by unfold maxLen;omega
  have hm2:(mL+1)*144≤140737488355328:=by omega
  have Vw:w2.heap.size≤(wr.drew.alloc (.cells #[.int .i64 a.op,.string a.name,.string a.src,.int .i64 a.n,.slice yX zx yY,.slice zy zA zB,.slice xI xJ cb2,.slice zC zD zF] 49)).heap.size:=by simp;omega
  have hlo:=HE.out.els.lo
  have hAl:∀ b,b<w2.heap.size→¬ Bl.map (·.block)=some b:=by
   intro b hb e
   cases Bl with
   | none=>cases e
   | some a2 =>
    have h:=(hlo a2 rfl).1
    simp at e
    omega
  have SY:=ae hAl
  clear hAl hlo
  have Dl:=ae (fun (w3:World) (hb:But (fun k=>Bl.map (·.block)=some k) (wr.drew.alloc (.cells #[.int .i64 a.op,.string a.name,.string a.src,.int .i64 a.n,.slice yX zx yY,.slice zy zA zB,.slice xI xJ cb2,.slice zC zD zF] 49)) w3) (b:Nat) (hb0:b<w2.heap.size) (i:Nat)=>(hb.cell (p:=⟨b,i,none⟩) (by simp;omega) (SY.out b hb0)).trans (World.cell?_alloc_lt wr.drew _ ⟨b,i,none⟩ (show b<wr.heap.size by omega)))
  have Hf3:=ae (fun (w3:World) (hb:But (fun k=>Bl.map (·.block)=some k) (wr.drew.alloc (.cells #[.int .i64 a.op,.string a.name,.string a.src,.int .i64 a.n,.slice yX zx yY,.slice zy zA zB,.slice xI xJ cb2,.slice zC zD zF] 49)) w3)=>(((show af wr.drew (w1.heap.size+1) _ _ from HE.out.box).alloc _).ag (hb.block _ (by simp;omega) (SY.out _ (by omega)))).frozen)
  have Hsn:=ae (sumT_snoc (els.map aX) (aX a))
  have Htn:=ae (yh (els.map aX) (aX a))
  have ⟨ta0,ta1,ta2,ta3⟩:=iy a
  generalize htl:aX a=tl' at *
  have KE:=ae htl
  clear htl
  obtain⟨mx,hmx,QF⟩:∃ mx,(if htop<tl'.2+1 then tl'.2+1 else htop)=mx∧Hid (max htop (tl'.2+1)=mx):=⟨_,rfl,(Dp _ _).symm⟩
  go_wp2_with (go_at_call 24;refine(Hpk.out _).mono ?_;rintro e w' ⟨rfl,rfl⟩)
  go_region_law (refine Dn (base:=w2.heap.size) (xs:=rows) (news:=[[.int .i64 a.op,.string a.name,.string a.src,.int .i64 a.n,.slice yX zx yY,.slice zy zA zB,.slice xI xJ cb2,.slice zC zD zF]]) rfl rfl Vq rfl hownA rfl Dk (by simp) (by simp[Value.oneCell']) hm1 hm2 Vw ?_;intro A3' c3' w3 hown3 dB hf3;have aiT:=Hf3.out w3 dB;have z0:=(Dl.out w3 dB _ (by omega) 7).trans y7)
  all_goals
   go_wp2
   have hA:=HE.out.aon Z8.out (by omega) Hrl.out Vu.out SH.out rfl (bQ.conv (fun _ h=>h) (Kept.refl _ _) _ (by omega) Hpa.out) hown3 dB hf3
   refine HI.out _ _ _ _ _ _ _ _ _ _ _ _ _ _ _ _ _ _ _ _ _ _ _ _ _ _ _ _ _ _ _ _ _ _ _ _ _ _ _ _ _ _ _ _ _ _ _ _ _ _ _ _ _ _ _ _ _ _ _ _ _ _ _ _ _ _ _ _ _ _ _ _ _ _ _ _ _ _ _ _ _ _ _ ⟨q+1,body,els++[a],Bb,db,A3',c3',by omega,by rw[List.length_append,PV.out,Z8.out];simp;omega,?_,?_,by go_num,hA⟩ (by go_num)
   ·rw[List.map_append,List.map_cons,List.map_nil,KE.out,Hsn.out]
    have h:=lK.out
    exact congrArg (Value.int .i64) (by omega)
   ·rw[List.map_append,List.map_cons,List.map_nil,KE.out,Htn.out]
    have h:=lG.out
    have h2:=QF.out
    clear hmx
    exact congrArg (Value.int .i64) (by omega)
end Go.Proofs.YtjjfkhbajidmdaaGreatDoor
