/- Parts of this proof, one behind the other: WkB, WkF, WkH. -/
import Derived.Test.YtjjfkhbajidmdaaGreatDoorPb11
import Derived.Deep.Cut
import Derived.Deep.DeepCutAuto
import Derived.Deep.CutBlock
import Derived.Outline
import Derived.Deep.QuietTactic
import Derived.BigQuiet
import Derived.Test.YtjjfkhbajidmdaaGreatDoorPb6
set_option maxRecDepth 1000000
set_option maxHeartbeats 40000000
namespace Go.Proofs.YtjjfkhbajidmdaaGreatDoor
open Go.RowKit Go.Afx
theorem Vt {w:World} {g:Nat} {T:TypeId} {v0 v1 v2 v3 v4 v5:Value} (h:af w g T #[v0,v1,v2,v3,v4,v5]) :
  w.cell? ⟨g,0,none⟩=some v0∧w.cell? ⟨g,1,none⟩=some v1∧w.cell? ⟨g,2,none⟩=some v2∧w.cell? ⟨g,3,none⟩=some v3∧w.cell? ⟨g,4,none⟩=some v4∧w.cell? ⟨g,5,none⟩=some v5∧g<w.heap.size:=by
 have h0:=h.cell 0;have h1:=h.cell 1;have h2:=h.cell 2;have h3:=h.cell 3;have h4:=h.cell 4;have h5:=h.cell 5
 simp at h0 h1 h2 h3 h4 h5
 exact⟨h0,h1,h2,h3,h4,h5,h.lt⟩
def iC (g:Nat) (W:World):Prop:=∃ (o n:Int) (s nm sr:ByteArray),af W g 55 #[.int .i64 o,.int .i64 n,.string s,.string nm,.string sr,.slice none 0 0]
theorem iC.set1 {g:Nat} {W:World} (h:iC g W) (n':Int):iC g (W.setCell ⟨g,1,none⟩ (.int .i64 n')):=by
 obtain⟨o,n,s,nm,sr,h⟩:=h;exact⟨o,n',s,nm,sr,h.stored 1 (.int .i64 n')⟩
theorem iC.set2 {g:Nat} {W:World} (h:iC g W) (s':ByteArray):iC g (W.setCell ⟨g,2,none⟩ (.string s')):=by
 obtain⟨o,n,s,nm,sr,h⟩:=h;exact⟨o,n,s',nm,sr,h.stored 2 (.string s')⟩
theorem iC.ajZ {g:Nat} {W:World} (h:iC g W) (s':ByteArray):iC g (W.setCell ⟨g,3,none⟩ (.string s')):=by
 obtain⟨o,n,s,nm,sr,h⟩:=h;exact⟨o,n,s,s',sr,h.stored 3 (.string s')⟩
theorem iC.aj0 {g:Nat} {W:World} (h:iC g W) (s':ByteArray):iC g (W.setCell ⟨g,4,none⟩ (.string s')):=by
 obtain⟨o,n,s,nm,sr,h⟩:=h;exact⟨o,n,s,nm,s',h.stored 4 (.string s')⟩
theorem iC.low {g:Nat} {W W':World} (h:iC g W) (hb:Below W.heap.size W W'):iC g W':=by
 obtain⟨o,n,s,nm,sr,h⟩:=h;exact⟨o,n,s,nm,sr,h.ag (hb.block _ h.lt)⟩
theorem Mc {g:Nat} {a W:World} (h:But (fun b=>b=g) a W) {i:Nat} {u:Value}:But (fun b=>b=g) a (W.setCell ⟨g,i,none⟩ u):=h.setCell (p:=⟨g,i,none⟩) (.inl rfl) u
def af2 (w w2:World) (u:Value) (W:World):Prop :=
 ∃ k:Nat,u=.int .i64 k∧k≤2∧iC (w.heap.size+1) W∧But (fun b=>b=w.heap.size+1) w2 W
theorem aj1 {w w2 W:World} {u:Value} (h:∃ k:Nat,u=.int .i64 k∧k≤2) (h2:iC (w.heap.size+1) W∧But (fun b=>b=w.heap.size+1) w2 W):af2 w w2 u W:=by
 obtain⟨k,h1,h3⟩:=h;exact⟨k,h1,h3,h2⟩
def adt (F:Nat→Prop) (d:Nat):Prop:=∀ (e:Ex) (row:List Value) (w:World),aC F d w row e →
 Calls Tryz.prog 59 #[.agg row.toArray] w (SB w)
theorem PW (F:Nat→Prop) (d:Nat):adt F d:=by
  induction d with
  | zero=>intro e row w h;exact h.elim
  | succ d ih =>
    intro e row w h
    obtain⟨ho,hn,hs,hnm,hsr,A,m,c,rfl,hl⟩:=h.open_
    obtain⟨op,n,s,nm,sr,args⟩:=e
    simp only[Ex.op,Ex.n,Ex.s,Ex.name,Ex.src,Ex.args] at *
    obtain⟨w2,Hw2⟩:∃ w2,Hid (w2=(w.alloc (.cells #[.int .i64 op,.int .i64 n,.string s,.string nm,.string sr,.slice A m c] 55)).alloc (.cells #[.int .i64 op,.int .i64 0,.string { data:=#[] },.string { data:=#[] },.string { data:=#[] },.slice none 0 0] 55)):=⟨_,rfl⟩
    have hR:Below w.heap.size w w2:=by rw[Hw2.out];exact((Below.refl _ _).alloc (Nat.le_refl _) _).alloc (by simp) _
    have he2:af w2 w.heap.size 55 #[.int .i64 op,.int .i64 n,.string s,.string nm,.string sr,.slice A m c]:=by rw[Hw2.out];exact(af.laid _ _ _).alloc _
    have hw2:af w2 (w.heap.size+1) 55 #[.int .i64 op,.int .i64 0,.string { data:=#[] },.string { data:=#[] },.string { data:=#[] },.slice none 0 0]:=by rw[Hw2.out];exact fZ (by simp) _ _
    have Hx:=ae (fun W (hW:But (fun b=>b=w.heap.size+1) w2 W)=>Vt (he2.ag (hW.block _ he2.lt (by omega))))
    have wG:=ae (fun W (hW:But (fun b=>b=w.heap.size+1) w2 W)=>hR.trans (hW.below' hR.size (fun b e=>by omega)))
    have Hl:=ae (fun W (hW:Below w.heap.size w W)=>aO.below hl hW)
    have Df:=ae (fun W=>lq nm W hnm)
    have Dh:=ae (fun W=>lq s W hs)
    have HF2:=ae (fun W=>lq sr W hsr)
    have hm:=ai.gu hl
    have h2:iC (w.heap.size+1) w2:=⟨_,_,_,_,_,hw2⟩
    have hB:But (fun b=>b=w.heap.size+1) w2 w2:=But.refl _ _
    obtain⟨x0,x1,x2,x3,x4,x5,xl⟩:=Hx.out w2 hB
    obtain⟨y0,y1,y2,y3,y4,y5,yl⟩:=Vt hw2
    have yf:=hw2.frozen
    unfold okS at hs hnm hsr
    clear he2 hl hw2
    go_enter Tryz.func59,Tryz.ntmps59
    go_upto_region 2 with (fail)
    rw[← Hw2.out]
    go_upto_block 0 with (fail)
    go_cut [4] (fun u W=>af2 w w2 u W)
    case first =>
      have ways:op=4∨op=5∨op=19∨(¬ op=4∧¬ op=5∧¬ op=19):=by omega
      rcases ways with rfl|rfl|rfl|⟨e4,e5,e19⟩
      all_goals go_wp2_with (first
        | (go_at_call 25;(first|with_reducible refine(Df.out _).mono ?_|with_reducible refine(Dh.out _).mono ?_|with_reducible refine(HF2.out _).mono ?_);rintro x w10 ⟨b,rfl,hb0⟩;replace h2:iC (w.heap.size+1) w10:=iC.low (by repeat (first|exact h2|apply iC.set1|apply iC.set2|apply iC.ajZ|apply iC.aj0)) hb0;replace hB:But (fun b=>b=w.heap.size+1) w2 w10:=But.kT (by repeat (first|exact hB|apply Mc)) hb0;obtain⟨x0,x1,x2,x3,x4,x5,xl⟩:=Hx.out w10 hB;obtain⟨_,_,_,_,_,hw3⟩:=h2;obtain⟨y0,y1,y2,y3,y4,y5,yl⟩:=Vt hw3;have yf:=hw3.frozen;have h2:iC (w.heap.size+1) w10:=⟨_,_,_,_,_,hw3⟩;clear hw3;cases b))
      all_goals
        first
        | (go_ret
           exact⟨_,rfl,wG.out _ (by repeat (first|exact hB|apply Mc))⟩)
        | (go_meet
           refine aj1 ?_ (And.intro (by repeat (first|exact h2|apply iC.set1|apply iC.set2|apply iC.ajZ|apply iC.aj0)) (by repeat (first|exact hB|apply Mc)))
           first
           | exact⟨0,rfl,by omega⟩
           | exact⟨1,rfl,by omega⟩
           | exact⟨2,rfl,by omega⟩)
    case rest =>
      obtain⟨k,rfl,hk2,hwb,hB⟩:=hcut
      generalize wc=W at *
      obtain⟨x0,x1,x2,x3,x4,x5,xl⟩:=Hx.out W hB
      obtain⟨o',n',s',nm',sr',hw3⟩:=hwb
      obtain⟨y0,y1,y2,y3,y4,y5,yl⟩:=Vt hw3
      have Hlw:=ae (wG.out W hB)
      have Hw:=ae (And.intro hB hw3)
      clear hw3 hB h2 yf
      cases t0:(n !=n')
      rotate_left
      · (go_wp2;go_ret;exact⟨_,rfl,Hlw.out⟩)
      by_cases t1:s.toList=s'.toList
      rotate_left
      · (go_wp2;go_ret;exact⟨_,rfl,Hlw.out⟩)
      by_cases t2:nm.toList=nm'.toList
      rotate_left
      · (go_wp2;go_ret;exact⟨_,rfl,Hlw.out⟩)
      by_cases t3:sr.toList=sr'.toList
      rotate_left
      · (go_wp2;go_ret;exact⟨_,rfl,Hlw.out⟩)
      by_cases hmk:m=k
      · subst hmk
        have d1:((m:Int) !=(m:Int))=false:=by simp
        have HX:=ae (fun W' (hW:Below W.heap.size W W')=>Hx.out W' (Hw.out.1.kT hW))
        go_wp2
        all_goals
          first
          | (go_ret
             exact⟨_,rfl,Hlw.out⟩)
          | (clear x0 x1 x2 x3 x4 x5 xl y0 y1 y2 y3 y4 y5 yl
             go_loopw [5] (fun i wr=>∃ j:Nat,j≤m∧i=.int .i64 j∧Below W.heap.size W wr) (fun i _=>m-(intOf i).toNat)
             case atStart=>exact⟨0,Nat.zero_le _,rfl,Below.refl _ _⟩
             case round =>
               obtain⟨j,hj,rfl,hbr⟩:=hrel
               obtain⟨x0,x1,x2,x3,x4,x5,xl⟩:=HX.out wr hbr
               have Hlr:=ae (Hlw.out.trans (hbr.mono Hlw.out.size))
               by_cases hlt:j<m
               · have d2:decide ((j:Int)<(m:Int))=true:=by simp;omega
                 have hls:=Hl.out wr Hlr.out
                 cases d with
                 | zero =>
                   obtain⟨b,o,r,e,hA,hbl,_,he,hl,hp,hc⟩:=ai.get hls hlt
                   exact hp.elim
                 | succ d =>
                   obtain⟨b,o,x,A2,m2,c2,rfl,hbl,hx,hc0,hc1,hc2,hc3,hc4,hc5,hp,_⟩:=aO.get hls hlt
                   have Hc:=ae (ih x _ wr hp)
                   clear hx hp
                   go_wp2_with (go_at_call 59;refine Hc.out.mono ?_;rintro y w9 ⟨b,rfl,SS⟩;cases b)
                   · go_ret
                     exact⟨_,rfl,Hlr.out.trans (SS.mono Hlr.out.size)⟩
                   · go_roundw
                     case rel=>exact⟨j+1,by omega,by go_num,hbr.trans (SS.mono hbr.size)⟩
                     case measure=>simp[intOf];omega
               · have d2:decide ((j:Int)<(m:Int))=false:=by simp;omega
                 go_wp2
                 go_ret
                 exact⟨_,rfl,Hlr.out⟩)
      · have d1:((m:Int) !=(k:Int))=true:=by simp;omega
        go_wp2
        all_goals
          go_ret
          exact⟨_,rfl,Hlw.out⟩
def Di (F:Nat→Prop) (d:Nat):Prop:=∀ (x:St) (row:List Value) (w:World),bQ F d w row x→Calls Tryz.prog 26 #[.agg row.toArray] w (SB w)
theorem wH (F:Nat→Prop) (d:Nat) (ih:Di F d) (A:Option Addr) (n c:Nat) (xs:List St) (w:World) (h:aP F d w A n c xs):Calls Tryz.prog 13 #[.slice A n c] w (SB w):=by
 have hn:=ai.gu h
 go_enter Tryz.func13,Tryz.ntmps13
 go_wp2
 go_loopw [3] (fun i wr=>∃ k:Nat,k≤n∧i=.int .i64 k∧Below w.heap.size w wr) (fun i _=>n-(intOf i).toNat)
 case atStart=>exact⟨0,Nat.zero_le _,rfl,Below.refl _ _⟩
 case round =>
  obtain⟨k,hk,rfl,hB⟩:=hrel
  by_cases hlt:k<n
  ·cases d with
   | zero =>
    obtain⟨b,o,r,e,hA,hbl,_,he,hl,hp,hc⟩:=ai.get (aP.below h hB) hlt
    exact hp.elim
   | succ d =>
    obtain⟨b,o,x,yX,zx,yY,zy,zA,zB,xI,xJ,cb2,zC,zD,zF,rfl,hbl,hx,hc0,hc1,hc2,hc3,hc4,hc5,hc6,hc7,hp,_⟩:=aP.get (aP.below h hB) hlt
    have Hc:=ae (ih x _ wr hp)
    clear hx hp
    go_wp2_with (go_at_call 26;refine Hc.out.mono ?_;rintro y w9 ⟨q,rfl,SS⟩;cases q)
    ·go_ret
     exact⟨_,rfl,hB.trans (SS.mono hB.size)⟩
    ·go_roundw
     case rel=>exact⟨k+1,by omega,by go_num,hB.trans (SS.mono hB.size)⟩
     case measure=>simp[intOf];omega
  ·go_wp2
   go_ret
   exact⟨_,rfl,hB⟩
def aad (w2:World) (u:Value) (W:World):Prop:=∃ b:Bool,u=.bool b∧Below w2.heap.size w2 W
def af6 (w2:World) (u:Value) (W:World):Prop:=∃ b:Bool,u=.bool b∧w2=W
def aj2 (w2:World) (u:Value) (W:World):Prop:=∃ f:ByteArray,u=.string f∧okS f∧w2=W
def oH (n:Nat):Code→Option Code
 | .seq a b=>if jy n a then some (.seq a b) else match oH n a with
  | some c=>some c
  | none=>oH n b
 | .loop c=>oH n c
 | .block _ c=>oH n c
 | .scope c=>oH n c
 | .cond _ a b=>match oH n a with
  | some c=>some c
  | none=>oH n b
 | _=>none
noncomputable def WE (n:Nat):Code:=((Tryz.f26.body.bind (oH n)).getD .skip)
theorem PX (F:Nat→Prop) (d:Nat) (ih:Di F d) (op n:Int) (name src:ByteArray) (cols:List ByteArray) (exprs:List Ex) (body els:List St) (Ac Ae Ab Al:Option Addr) (nc cc ne ce nb cb nl cl:Nat) (w w2 w6:World) {x0 x2 x3 x4 x5 x6 x7 x8 x9 x10 x11 x12 J4 x14 x15 x16 x17 x18 x19 x20 yj xC vN x24 x25 Fh x27 x28 x29 x30 x31 x32 EC x34 ED Fj Fp x38 x39 x40 x41 vZ x43 wo Fq Fv Fz FB Gi Gj Gl Gm Gn x54 x55 Gp Gq Gs Gt Gu Gv Gw Gx Gy Gz x66 GG GH x69 GI GK GL GM GN GR GU GV GX GY x80 x81 x82 x83 x84 x85 x86 x87 x88 x89 x90 x91 GZ x93 FC x95 x96 FD x98 x99 x100 x101 x102 x103 x104 x105 nH x107 nI nJ nK nM x112 x113 x114 x115 l9 mf mg mi mr mD mF mG mJ nN nO nP nR nS nT nU nV nX nY nZ og oh oq ou oz oC oD qp qw qx qy qA qB qC x150 x151 x152 x153 qE qF qG x157 x158 x159 x160 qH qI qJ qK qL qM x167 x168 qN qO qP qQ qR qU qV qW qX qY qZ rq ru ry rC rD rE rF rG rH rJ sJ sK sN sO sQ sS sU sV sW sZ:Value}
  (hb2:Below w.heap.size w w2) (hx:af w2 w.heap.size 49 #[.int .i64 op,.string name,.string src,.int .i64 n,.slice Ac nc cc,.slice Ae ne ce,.slice Ab nb cb,.slice Al nl cl]) (hB:Below w2.heap.size w2 w6) (hcl:ai F w2 1 dL Ac nc cc cols) (hel:aO F d w2 Ae ne ce exprs) (hbl:aP F d w2 Ab nb cb body) (hll:aP F d w2 Al nl cl els) :
  Code.wp Tryz.prog (WE 9) (bodyPost Tryz.prog Tryz.f26 (SB w)) ⟨#[x0,.pointer (some ⟨w.heap.size,0,none⟩),x2,x3,x4,x5,x6,x7,x8,x9,x10,x11,x12,J4,x14,x15,x16,x17,x18,x19,x20,yj,xC,vN,x24,x25,Fh,x27,x28,x29,x30,x31,x32,EC,x34,ED,Fj,Fp,x38,x39,x40,x41,vZ,x43,wo,Fq,Fv,Fz,FB,Gi,Gj,Gl,Gm,Gn,x54,x55,Gp,Gq,Gs,Gt,Gu,Gv,Gw,Gx,Gy,Gz,x66,GG,GH,x69,GI,GK,GL,GM,GN,GR,GU,GV,GX,GY,x80,x81,x82,x83,x84,x85,x86,x87,x88,x89,x90,x91,GZ,x93,FC,x95,x96,FD,x98,x99,x100,x101,x102,x103,x104,x105,nH,x107,nI,nJ,nK,nM,x112,x113,x114,x115,l9,mf,mg,mi,mr,mD,mF,mG,mJ,nN,nO,nP,nR,nS,nT,nU,nV,nX,nY,nZ,og,oh,oq,ou,oz,oC,oD,qp,qw,qx,qy,qA,qB,qC,x150,x151,x152,x153,qE,qF,qG,x157,x158,x159,x160,qH,qI,qJ,qK,qL,qM,x167,x168,qN,qO,qP,qQ,qR,qU,qV,qW,qX,qY,qZ,rq,ru,ry,rC,rD,rE,rF,rG,rH,rJ,sJ,sK,sN,sO,sQ,sS,sU,sV,sW,sZ],[]⟩ w6:=by
 have hnc:=ai.gu hcl
 have hne:=ai.gu hel
 have HX:=ae (fun W (hW:Below w2.heap.size w2 W)=>hx.ag (hW.block _ hx.lt))
 have WG:=ae (fun W (hW:Below w2.heap.size w2 W)=>hcl.below hW)
 have aae:=ae (fun W (hW:Below w2.heap.size w2 W)=>aO.below hel hW)
 have adu:=ae (fun W (hW:Below w2.heap.size w2 W)=>aP.below hbl hW)
 have adv:=ae (fun W (hW:Below w2.heap.size w2 W)=>aP.below hll hW)
 have HL:=ae (fun W (hW:Below w2.heap.size w2 W)=>hb2.trans (hW.mono hb2.size))
 have H26:=ae hB
 clear hcl hel hbl hll hx hb2 hB
 conv=>arg 2;whnf
 obtain⟨z0,z1,z2,z3,z4,z5,z6,z7,zl⟩:=wF (HX.out w6 H26.out)
 go_wp2
 go_loopw [5] (fun i wr=>∃ k:Nat,k≤nc∧i=.int .i64 k∧Below w2.heap.size w2 wr) (fun i _=>nc-(intOf i).toNat)
 case atStart=>exact⟨0,Nat.zero_le _,rfl,H26.out⟩
 case round =>
  clear z0 z1 z2 z3 z4 z5 z6 z7 zl
  generalize wr=w7 at *
  obtain⟨k,hk,rfl,uz⟩:=hrel
  have NL:=ae uz
  obtain⟨z0,z1,z2,z3,z4,z5,z6,z7,zl⟩:=wF (HX.out w7 uz)
  clear uz
  by_cases hlt:k<nc
  ·obtain⟨b,o,r,cN,rfl,L9,_,hck,_,hp,hc⟩:=(WG.out w7 NL.out).get hlt
   obtain⟨rfl,okc⟩:=hp
   have hc0:=hc 0 _ rfl
   rw[Nat.mul_one,Nat.add_zero] at hc0
   have Hck:=ae hck
   have HFc:=ae (fun W=>lq cN W okc)
   clear hc hck
   go_wp2_with (go_at_call 25;refine(HFc.out _).mono ?_;rintro e w8 ⟨q,rfl,hb8⟩;cases q)
   ·go_ret
    exact⟨_,rfl,HL.out _ (NL.out.trans (hb8.mono NL.out.size))⟩
   ·have H28:=ae (NL.out.trans (hb8.mono NL.out.size))
    clear z0 z1 z2 z3 z4 z5 z6 z7 zl
    go_loopw [6] (fun i wr=>∃ j:Nat,j≤k∧i=.int .i64 j∧Below w2.heap.size w2 wr) (fun i _=>k-(intOf i).toNat)
    case atStart=>exact⟨0,Nat.zero_le _,rfl,H28.out⟩
    case round =>
     obtain⟨j,hj,rfl,rM⟩:=hrel
     obtain⟨z0,z1,z2,z3,z4,z5,z6,z7,zl⟩:=wF (HX.out wr rM)
     by_cases hjk:j<k
     ·obtain⟨b',o',r',y,hA',aj6,_,hyj,_,hp',hc'⟩:=(WG.out wr rM).get (k:=j) (by omega)
      obtain⟨b'',o'',r'',y'',PY,SV,_,hyk,_,amM,hc''⟩:=(WG.out wr rM).get hlt
      obtain⟨rfl,_⟩:=hp'
      obtain⟨rfl,_⟩:=amM
      simp only[Option.some.injEq,Addr.mk.injEq,and_true] at hA' PY
      obtain⟨rfl,rfl⟩:=hA'
      obtain⟨rfl,rfl⟩:=PY
      have e2:=Hck.out.symm.trans hyk
      injection e2 with e2
      subst e2
      have hd0:=hc' 0 _ rfl
      have hd1:=hc'' 0 _ rfl
      rw[Nat.mul_one,Nat.add_zero] at hd0 hd1
      clear hc' hc'' hyj hyk
      cases he:(y.toList==cN.toList)
      ·go_wp2
       go_quiet (fail)
       go_wp2
       go_roundw
       case rel=>exact⟨j+1,by omega,by go_num,below_drewN rM _⟩
       case measure=>simp[intOf];omega
      ·have H09:=ae (HL.out _ rM)
       go_wp2
       go_quiet (fail)
       go_wp2
       go_ret
       exact⟨_,rfl,below_drewN H09.out _⟩
     ·go_wp2
      go_roundw
      case rel=>exact⟨k+1,by omega,by go_num,rM⟩
      case measure=>simp[intOf];omega
  ·go_upto_region 20 with (fail)
   go_cut [8] (fun u8 W=>af6 w7 u8 W)
   case first =>
    cases e3:(op==3)<;>cases e8:(op==8)<;>cases e10:(op==10)
    all_goals
     skip
     go_wp2
     go_meet
     exact⟨_,rfl,rfl⟩
   case rest =>
    obtain⟨mb,rfl,rfl⟩:=hcut
    go_upto_region 21 with (fail)
    go_cut [179] (fun amO W=>af6 w7 amO W)
    case first =>
     cases mb
     ·cases e1:((ne:Int) !=1+(nc:Int))
      all_goals
       go_wp2
       go_meet
       exact⟨_,rfl,rfl⟩
     ·cases e1:decide ((ne:Int)<1)<;>cases e8:decide ((8:Int)<(ne:Int))
      all_goals
       go_wp2
       go_meet
       exact⟨_,rfl,rfl⟩
    case rest =>
     obtain⟨td,rfl,rfl⟩:=hcut
     cases td
     rotate_left
     ·go_wp2
      go_ret
      exact⟨_,rfl,HL.out _ NL.out⟩
     clear z0 z1 z2 z3 z4 z5 z6 z7 zl
     go_wp2
     go_loopw [9] (fun i wr=>∃ k:Nat,k≤ne∧i=.int .i64 k∧Below w2.heap.size w2 wr) (fun i _=>ne-(intOf i).toNat)
     case atStart=>exact⟨0,Nat.zero_le _,rfl,NL.out⟩
     case round =>
      obtain⟨k2,hk2,rfl,hB⟩:=hrel
      have H0r:=ae (HL.out _ hB)
      obtain⟨z0,z1,z2,z3,z4,z5,z6,z7,zl⟩:=wF (HX.out wr hB)
      by_cases hlt2:k2<ne
      ·cases d with
       | zero =>
        obtain⟨b3,o3,r3,e3,hA3,SV,_,he3,hl3,hp3,hc3⟩:=ai.get (aae.out wr hB) hlt2
        exact hp3.elim
       | succ d =>
        obtain⟨b3,o3,x,A3,m3,c3,rfl,SV,hx,hd0,hd1,hd2,hd3,hd4,hd5,hpx,_⟩:=aO.get (aae.out wr hB) hlt2
        have Hc:=ae (PW F (d+1) x _ wr hpx)
        clear hx
        go_wp2_with (go_at_call 59;refine Hc.out.mono ?_;rintro y w9 ⟨q,rfl,SS⟩;cases q)
        ·go_ret
         exact⟨_,rfl,H0r.out.trans (SS.mono H0r.out.size)⟩
        ·go_roundw
         case rel=>exact⟨k2+1,by omega,by go_num,hB.trans (SS.mono hB.size)⟩
         case measure=>simp[intOf];omega
      ·have HC1:=ae (wH F d ih Ab nb cb body wr (adu.out wr hB))
       have HC2:=ae (fun (W:World) (hW:Below w2.heap.size w2 W)=>wH F d ih Al nl cl els W (adv.out W hW))
       go_wp2_with (first|(go_at_call 13;(with_reducible refine HC1.out.mono ?_);rintro y w9 ⟨q,rfl,SS⟩;have rM:=hB.trans (SS.mono hB.size);obtain⟨t0,t1,t2,t3,t4,t5,t6,t7,tl⟩:=wF (HX.out w9 rM);cases q)|(go_at_call 13;(with_reducible refine(HC2.out w9 rM).mono ?_);rintro y w10 ⟨q,rfl,amP⟩))
       ·go_ret
        exact⟨_,rfl,HL.out _ rM⟩
       ·go_ret
        exact⟨_,rfl,HL.out _ (rM.trans (amP.mono rM.size))⟩
theorem J5 (F:Nat→Prop) (d:Nat) (ih:Di F d) (op n:Int) (name src:ByteArray) (cols:List ByteArray) (exprs:List Ex) (body els:List St) (Ac Ae Ab Al:Option Addr) (nc cc ne ce nb cb nl cl:Nat) (w:World)
  (agX:okS name) (agY:okS src) (hcl:ai F w 1 dL Ac nc cc cols) (hel:aO F d w Ae ne ce exprs) (hbl:aP F d w Ab nb cb body) (hll:aP F d w Al nl cl els) :
  Calls Tryz.prog 26 #[.agg #[.int .i64 op,.string name,.string src,.int .i64 n,.slice Ac nc cc,.slice Ae ne ce,.slice Ab nb cb,.slice Al nl cl]] w (SB w):=by
 have hnc:=ai.gu hcl
 have hne:=ai.gu hel
 have hnb:=ai.gu hbl
 have hnl:=ai.gu hll
 have hb1:Below w.heap.size w (w.alloc (.cells #[.int .i64 op,.string name,.string src,.int .i64 n,.slice Ac nc cc,.slice Ae ne ce,.slice Ab nb cb,.slice Al nl cl] 49)):=(Below.refl _ _).alloc (Nat.le_refl _) _
 by_cases hlo:1≤op
 rotate_left
 ·have apP:op<1:=by omega
  clear hcl hel hbl hll
  go_enter Tryz.func26,Tryz.ntmps26
  go_wp2
  go_ret
  exact⟨_,rfl,hb1⟩
 by_cases hhi:op≤10
 rotate_left
 ·have apQ:10<op:=by omega
  clear hcl hel hbl hll
  go_enter Tryz.func26,Tryz.ntmps26
  go_wp2
  go_ret
  exact⟨_,rfl,hb1⟩
 have Hop:=ae (And.intro hlo hhi)
 go_enter Tryz.func26,Tryz.ntmps26
 go_upto_region 4 with (fail)
 obtain⟨w2,Hw2⟩:∃ w2,Hid (w2=(w.alloc (.cells #[.int .i64 op,.string name,.string src,.int .i64 n,.slice Ac nc cc,.slice Ae ne ce,.slice Ab nb cb,.slice Al nl cl] 49)).alloc (.cells #[.string { data:=#[] },.string { data:=#[110] },.string { data:=#[110] },.string { data:=#[115] },.string { data:=#[110,115,99] },.string { data:=#[110,115] },.string { data:=#[110,115,78,98] },.string { data:=#[98,101] },.string { data:=#[115] },.string { data:=#[] },.string { data:=#[] }] 9)):=⟨_,rfl⟩
 have hb2:Below w.heap.size w w2:=by rw[Hw2.out];exact hb1.alloc (by simp) _
 have hx2:af w2 w.heap.size 49 #[.int .i64 op,.string name,.string src,.int .i64 n,.slice Ac nc cc,.slice Ae ne ce,.slice Ab nb cb,.slice Al nl cl]:=by rw[Hw2.out];exact(af.laid _ _ _).alloc _
 have ha2:af w2 (w.heap.size+1) 9 #[.string { data:=#[] },.string { data:=#[110] },.string { data:=#[110] },.string { data:=#[115] },.string { data:=#[110,115,99] },.string { data:=#[110,115] },.string { data:=#[110,115,78,98] },.string { data:=#[98,101] },.string { data:=#[115] },.string { data:=#[] },.string { data:=#[] }]:=by rw[Hw2.out];exact fZ (by simp) _ _
 rw[← Hw2.out]
 obtain⟨x0,x1,x2,x3,x4,x5,x6,x7,xl⟩:=wF hx2
 have HX:=ae (fun W (hW:Below w2.heap.size w2 W)=>hx2.ag (hW.block _ hx2.lt))
 have WG:=ae (fun W (hW:Below w2.heap.size w2 W)=>(hcl.below hb2).below hW)
 have aae:=ae (fun W (hW:Below w2.heap.size w2 W)=>aO.below (aO.below hel hb2) hW)
 have adu:=ae (fun W (hW:Below w2.heap.size w2 W)=>aP.below (aP.below hbl hb2) hW)
 have adv:=ae (fun W (hW:Below w2.heap.size w2 W)=>aP.below (aP.below hll hb2) hW)
 have HL:=ae (fun W (hW:Below w2.heap.size w2 W)=>hb2.trans (hW.mono hb2.size))
 clear hcl hel hbl hll hx2 hb1 hb2
 go_cut [4] (fun u4 W=>aj2 w2 u4 W)
 case first =>
  have a0:=ha2.cell 0;have a1:=ha2.cell 1;have a2:=ha2.cell 2;have a3:=ha2.cell 3;have a4:=ha2.cell 4;have a5:=ha2.cell 5;have a6:=ha2.cell 6;have a7:=ha2.cell 7;have a8:=ha2.cell 8;have a9:=ha2.cell 9;have a10:=ha2.cell 10
  simp at a0 a1 a2 a3 a4 a5 a6 a7 a8 a9 a10
  clear ha2 HX WG aae adu adv
  have ways:op=1∨op=2∨op=3∨op=4∨op=5∨op=6∨op=7∨op=8∨op=9∨op=10:=by omega
  rcases ways with rfl|rfl|rfl|rfl|rfl|rfl|rfl|rfl|rfl|rfl
  all_goals
   go_wp2
   go_meet
   exact⟨_,rfl,by unfold okS;decide +kernel,rfl⟩
 case rest =>
  obtain⟨f,rfl,G7,rfl⟩:=hcut
  clear ha2
  have zG:=ae G7
  clear G7
  go_upto_region 5 with (fail)
  go_cut [57] (fun u57 W=>aad w2 u57 W)
  case first =>
   refine Code.wp_mono fM (adr op n name src f Ac Ae Ab Al nc cc ne ce nb cb nl cl w w2 agX agY zG.out (HX.out _ (Below.refl _ _)) ?_)
   intro y24 y25 y26 y27 y28 y29 y30 y31 y32 y33 y34 y35 y36 y37 y38 y39 y40 Vd Ve Vf Vg y45 y46 y47 y48 y49 y50 y51 y52 y53 y54 y55 y56 y57 b W hr1 hr2
   have Hr:=ae (And.intro hr1 hr2)
   clear hr1 hr2
   go_step
   go_meet
   exact⟨b,Hr.out.1,Hr.out.2⟩
  case rest =>
   obtain⟨ta,rfl,hbA⟩:=hcut
   generalize wc=w5 at *
   have HA5:=ae hbA
   have Hx5:=ae (HX.out w5 hbA)
   clear hbA
   cases ta
   rotate_left
   ·go_wp2
    go_ret
    exact⟨_,rfl,HL.out _ HA5.out⟩
   go_upto_region 7 with (fail)
   go_cut [112] (fun amS W=>aad w5 amS W)
   case first =>
    refine Code.wp_mono fM (ads op n name src f Ac Ae Ab Al nc cc ne ce nb cb nl cl w w5 zG.out Hx5.out ?_)
    intro y58 y59 y60 y61 y62 y63 y64 y65 y66 y67 y68 y69 y70 y71 y72 y73 y74 y75 y76 y77 y78 y79 y80 y81 y82 y83 y84 y85 y86 y87 y88 y89 y90 y91 y92 y93 y94 y95 y96 y97 y98 y99 YH y101 y102 YI y104 YJ YK YL YM YN YO YP y112 b W hr1 hr2
    have Hr:=ae (And.intro hr1 hr2)
    clear hr1 hr2
    go_step
    go_meet
    exact⟨b,Hr.out.1,Hr.out.2⟩
   case rest =>
    obtain⟨tb,rfl,hbB⟩:=hcut
    generalize wc=w6 at *
    have H26:=ae (HA5.out.trans (hbB.mono HA5.out.size))
    clear hbB
    cases tb
    rotate_left
    ·go_wp2
     go_ret
     exact⟨_,rfl,HL.out _ H26.out⟩
    repeat (first|exact PX F d ih op n name src cols exprs body els Ac Ae Ab Al nc cc ne ce nb cb nl cl w w2 w6 (HL.out _ (Below.refl _ _)) (HX.out _ (Below.refl _ _)) H26.out (WG.out _ (Below.refl _ _)) (aae.out _ (Below.refl _ _)) (adu.out _ (Below.refl _ _)) (adv.out _ (Below.refl _ _))|go_step)
theorem Md (F:Nat→Prop) (d:Nat):Di F d:=by
 induction d with
 | zero=>intro x row w h;exact h.elim
 | succ d ih =>
  intro x row w h
  obtain⟨_,_,hnm,hsr,Ac,nc,cc,Ae,ne,ce,Ab,nb,cb,Al,nl,cl,rfl,hcl,hel,hbl,hll⟩:=h.open_
  exact J5 F d ih x.op x.n x.name x.src x.cols x.exprs x.body x.els Ac Ae Ab Al nc cc ne ce nb cb nl cl w hnm hsr hcl hel hbl hll
theorem aaf {w:World} {g:Nat} {T:TypeId} {v0 v1 v2 v3 v4 v5:Value} (h:af w g T #[v0,v1,v2,v3,v4,v5]) :
  w.cell? ⟨g,0,none⟩=some v0∧w.cell? ⟨g,1,none⟩=some v1∧w.cell? ⟨g,2,none⟩=some v2∧w.cell? ⟨g,3,none⟩=some v3∧w.cell? ⟨g,4,none⟩=some v4∧w.cell? ⟨g,5,none⟩=some v5∧g<w.heap.size:=by
 have h0:=h.cell 0;have h1:=h.cell 1;have h2:=h.cell 2;have h3:=h.cell 3;have h4:=h.cell 4;have h5:=h.cell 5
 simp at h0 h1 h2 h3 h4 h5
 exact⟨h0,h1,h2,h3,h4,h5,h.lt⟩
def aj7 (np:Nat) (w2:World) (u i:Value) (W:World):Prop:=∃ (k:Nat) (b:Bool),k≤np∧i=.int .i64 k∧u=.bool b∧Below w2.heap.size w2 W
def aj8 (w2:World) (u:Value) (W:World):Prop:=∃ b:Bool,u=.bool b∧Below w2.heap.size w2 W
theorem SX (F:Nat→Prop) (name src part:ByteArray) (fuel:Int) (Ap Ab:Option Addr) (np cp nb cb:Nat) (params:List Co) (w:World) (hp:ai F w 2 rO Ap np cp params) (uU:okS name) (oks:okS src) :
    Calls Tryz.prog 12 #[.agg #[.string name,.string src,.string part,.int .i64 fuel,.slice Ap np cp,.slice Ab nb cb]] w (SB w):=by
  have hnp:=hp.gu
  obtain⟨w2,Hw2⟩:∃ w2,Hid (w2=w.alloc (.cells #[.string name,.string src,.string part,.int .i64 fuel,.slice Ap np cp,.slice Ab nb cb] 30)):=⟨_,rfl⟩
  have hb2:Below w.heap.size w w2:=by rw[Hw2.out];exact(Below.refl _ _).alloc (Nat.le_refl _) _
  have hx2:af w2 w.heap.size 30 #[.string name,.string src,.string part,.int .i64 fuel,.slice Ap np cp,.slice Ab nb cb]:=by rw[Hw2.out];exact af.laid _ _ _
  have HX:=ae (fun W (hW:Below w2.heap.size w2 W)=>aaf (hx2.ag (hW.block _ hx2.lt)))
  have Hp2:=ae (fun W (hW:Below w2.heap.size w2 W)=>(hp.below hb2).below hW)
  have HL:=ae (fun W (hW:Below w2.heap.size w2 W)=>hb2.trans (hW.mono hb2.size))
  have Dh:=ae (fun W=>lq name W uU)
  have HF2:=ae (fun W=>lq src W oks)
  obtain⟨x0,x1,x2,x3,x4,x5,xl⟩:=aaf hx2
  obtain⟨a0,Ha0⟩:∃ b,Hid ((part.toList==[])=b):=⟨_,rfl⟩
  have hse:=Ha0.out
  have H22:=ae (Below.refl w2.heap.size w2)
  clear hp hx2 hb2
  go_enter Tryz.func12,Tryz.ntmps12
  go_upto_region 1 with (fail)
  rw[← Hw2.out]
  go_wp2
  go_loopw [3,4] (fun u3 i wr=>aj7 np w2 u3 i wr) (fun _ i _=>np-(intOf i).toNat)
  case atStart=>exact⟨0,a0,Nat.zero_le _,rfl,rfl,H22.out⟩
  case round =>
    clear x0 x1 x2 x3 x4 x5 xl hse
    generalize wr=w7 at *
    obtain⟨k,av,hk,rfl,rfl,uz⟩:=hrel
    have NL:=ae uz
    obtain⟨z0,z1,z2,z3,z4,z5,zl⟩:=HX.out w7 uz
    clear uz
    by_cases hlt:k<np
    · obtain ⟨b, o,c,rfl,hbl,hck,okc,oki,hc0,hc1⟩:=aag (Hp2.out w7 NL.out) hlt
      have Hck:=ae hck
      have HFc:=ae (fun W=>lq c.name W okc)
      have Hcc:=ae (fun W (hW:Below w2.heap.size w2 W)=>aag (Hp2.out W hW) hlt)
      obtain⟨he,Hhe⟩:∃ b,Hid ((part.toList==c.name.toList)=b):=⟨_,rfl⟩
      have heq:=Hhe.out
      clear hck
      cases k1:decide (c.kind<1)<;>cases k3:decide (3<c.kind)<;>cases av
      all_goals
        go_wp2_with (go_at_call 25;refine(HFc.out _).mono ?_;rintro e w8 ⟨q,rfl,hb8⟩;(obtain⟨t0,t1,t2,t3,t4,t5,tl⟩:=HX.out w8 (NL.out.trans (hb8.mono NL.out.size)));(have s0:=(hb8.cell (p:=⟨b,o+k*2,none⟩) hbl).trans hc0);(have s1:=(hb8.cell (p:=⟨b,o+k*2+1,none⟩) hbl).trans hc1);cases q)
        all_goals
          first
          | (go_ret
             exact⟨_,rfl,HL.out _ (NL.out.trans (hb8.mono NL.out.size))⟩)
          | (go_quiet (fail)
             go_wp2
             have H28:=ae (below_drewN (NL.out.trans (hb8.mono NL.out.size)) nq)
             clear z0 z1 z2 z3 z4 z5 zl t0 t1 t2 t3 t4 t5 tl s0 s1 heq
             go_loopw [5] (fun i wr=>∃ j:Nat,j≤k∧i=.int .i64 j∧Below w2.heap.size w2 wr) (fun i _=>k-(intOf i).toNat)
             case atStart=>exact⟨0,Nat.zero_le _,rfl,H28.out⟩
             case round =>
               obtain⟨j,hj,rfl,rM⟩:=hrel
               obtain⟨z0,z1,z2,z3,z4,z5,zl⟩:=HX.out wr rM
               by_cases hjk:j<k
               · obtain⟨b',o',y,hA',aj6,hyj,_,_,hd0,hd1⟩:=aag (Hp2.out wr rM) (k:=j) (by omega)
                 obtain⟨b'',o'',y'',PY,SV,hyk,_,_,hd2,hd3⟩:=Hcc.out wr rM
                 simp only[Option.some.injEq,Addr.mk.injEq,and_true] at hA' PY
                 obtain⟨rfl,rfl⟩:=hA'
                 obtain⟨rfl,rfl⟩:=PY
                 have e2:=Hck.out.symm.trans hyk
                 injection e2 with e2
                 subst e2
                 clear hyj hyk
                 cases hsame:(y.name.toList==c.name.toList)
                 · go_wp2
                   go_quiet (fail)
                   go_wp2
                   go_roundw
                   case rel=>exact⟨j+1,by omega,by go_num,below_drewN rM _⟩
                   case measure=>simp[intOf];omega
                 · have H09:=ae (HL.out _ rM)
                   go_wp2
                   go_quiet (fail)
                   go_wp2
                   go_ret
                   exact⟨_,rfl,below_drewN H09.out _⟩
               · go_wp2
                 go_roundw
                 case rel=>exact⟨k+1,_,by omega,by go_num,rfl,rM⟩
                 case measure=>simp[intOf];omega)
    · go_upto_region 13 with (fail)
      go_cut [86] (fun u86 W=>aj8 w2 u86 W)
      case first =>
        cases es:(src.toList !=[])<;>cases d0:decide (0<np)
        all_goals
          have es2:(src.toList==[]) = !(src.toList !=[]):=by simp[bne]
          rw[es] at es2
          go_wp2_with (go_at_call 25;refine(HF2.out _).mono ?_;rintro e w8 ⟨q,rfl,hb8⟩;have wu:=NL.out.trans (hb8.mono NL.out.size);obtain⟨t0,t1,t2,t3,t4,t5,tl⟩:=HX.out w8 wu;cases q)
          all_goals
            go_meet
            first
            | exact⟨_,rfl,wu⟩
            | exact⟨_,rfl,NL.out⟩
      case rest =>
        obtain⟨u,rfl,wu⟩:=hcut
        generalize wc=w8 at *
        clear z0 z1 z2 z3 z4 z5 zl
        obtain⟨z0,z1,z2,z3,z4,z5,zl⟩:=HX.out w8 wu
        have H28:=ae wu
        clear wu
        cases u
        rotate_left
        · go_wp2
          go_ret
          exact⟨_,rfl,HL.out _ H28.out⟩
        obtain⟨d8,hd8⟩:∃ b,decide ((np:Int)≤8)=b:=⟨_,rfl⟩
        obtain⟨e1,he1⟩:∃ b,decide (1≤fuel)=b:=⟨_,rfl⟩
        obtain⟨e2,he2⟩:∃ b,decide (fuel≤2000)=b:=⟨_,rfl⟩
        have ways:d8=false∨(d8=true∧av=false)∨(d8=true∧av=true∧e1=false)∨(d8=true∧av=true∧e1=true):=by cases d8<;>cases av<;>cases e1<;>simp
        rcases ways with rfl|⟨rfl,rfl⟩|⟨rfl,rfl,rfl⟩|⟨rfl,rfl,rfl⟩
        all_goals
          go_wp2_with (go_at_call 25;refine(Dh.out _).mono ?_;rintro e w9 ⟨q,rfl,SS⟩;have rM:=H28.out.trans (SS.mono H28.out.size);obtain⟨t0,t1,t2,t3,t4,t5,tl⟩:=HX.out w9 rM;cases q)
          all_goals
            go_ret
            exact⟨_,rfl,HL.out _ rM⟩
end Go.Proofs.YtjjfkhbajidmdaaGreatDoor
