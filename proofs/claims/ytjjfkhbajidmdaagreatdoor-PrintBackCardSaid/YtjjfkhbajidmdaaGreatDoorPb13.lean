/- Parts of this proof, one behind the other: WkP, WkQ. -/
import Derived.Test.YtjjfkhbajidmdaaGreatDoorPb11
import Derived.Test.YtjjfkhbajidmdaaGreatDoorPb8
import Derived.Outline
import Derived.Test.YtjjfkhbajidmdaaGreatDoorPb12
import Derived.Test.YtjjfkhbajidmdaaGreatDoorPb6
import Derived.Deep.DeepCutAuto
import Derived.Deep.CutBlock
set_option maxRecDepth 1000000
set_option maxHeartbeats 40000000
namespace Go.Proofs.YtjjfkhbajidmdaaGreatDoor
open Go.RowKit Go.Afx
noncomputable def aah (n:Nat):Code:=((Tryz.f4.body.bind (jl n)).getD .skip)
def SQ6 (w:World) (name src part:ByteArray) (fuel:Int) (Ap:Option Addr) (np cp:Nat) (Ab:Option Addr) (nb cb:Nat) (W:World):Prop:=W.cell? ⟨w.heap.size+1+1,0,none⟩=some (.string name)∧W.cell? ⟨w.heap.size+1+1,1,none⟩=some (.string src)∧W.cell? ⟨w.heap.size+1+1,2,none⟩=some (.string part)∧W.cell? ⟨w.heap.size+1+1,3,none⟩=some (.int .i64 fuel)∧W.cell? ⟨w.heap.size+1+1,4,none⟩=some (.slice Ap np cp)∧W.cell? ⟨w.heap.size+1+1,5,none⟩=some (.slice Ab nb cb)
theorem aai (name src part:ByteArray) (fuel n d:Int) (Ap Ab:Option Addr) (np cp nb cb:Nat) (w wr:World) {x0 x1 x3 x4 x5 x6 x8 x11 x12 J4 x14 x15 x16 x17 x18 x19 x20 yj xC vN x24 x25 Fh x27 x28 x29 x30 x31 x32 EC x34 ED Fj Fp x38 x39 x40 x41 vZ x43 wo Fq Fv Fz FB Gi Gj Gl Gm Gn x54 x55 Gp Gq Gs Gt Gu Gv Gw Gx Gy Gz x66 GG GH x69 GI GK GL GM GN GR GU GV GX GY x80 x81 x82 x83 x84 x85 x86 x87 x88 x89 x90 x91 GZ x93 FC x95 x96 FD x98 x99 x100 x101 x102 x103 x104 x105 nH x107 nI nJ nK nM x112 x113 x114 x115 l9 mf mg mi mr mD mF mG mJ nN nO nP nR nS nT nU nV nX nY nZ og oh oq ou oz oC oD:Value} {I:Act→World→Prop} {Q0:Exit→Act→World→Prop}
  (hbx:af wr (w.heap.size+1+1) 30 #[.string name,.string src,.string part,.int .i64 fuel,.slice Ap np cp,.slice Ab nb cb]) (hrs:af wr (w.heap.size+1) 30 #[.string { data:=#[] },.string { data:=#[] },.string { data:=#[] },.int .i64 0,.slice none 0 0,.slice none 0 0])
  (HH:∀ W,Below wr.heap.size wr W→Calls Tryz.prog 12 #[.agg #[.string name,.string src,.string part,.int .i64 fuel,.slice Ap np cp,.slice Ab nb cb]] W (SB W))
  (HBk:∀ W,Below wr.heap.size wr W→Calls Tryz.prog 13 #[.slice Ab nb cb] W (SB W))
  (hI:∀ (y3 y4 y5 y6 Y3 Y4 Y5 Y6 Y7 Y8 Y9 Za Zb Zc Zd Ze Zf Zg Zh Zi Zj Zk:Value) (W0:World),Below wr.heap.size wr W0→y3=.int .i64 n→y4=.int .i64 d→(∃ q:Bool,y5=.bool q)→y6=.bool true→I ⟨#[x0,x1,.pointer (some ⟨w.heap.size+1,0,none⟩),y3,y4,y5,y6,.pointer (some ⟨w.heap.size+1+1,0,none⟩),x8,.int .i64 n,.int .i64 d,x11,x12,J4,x14,x15,x16,x17,x18,x19,x20,yj,xC,vN,x24,x25,Fh,x27,x28,x29,x30,x31,x32,EC,x34,ED,Fj,Fp,x38,x39,x40,x41,vZ,x43,wo,Fq,Fv,Fz,FB,Gi,Gj,Gl,Gm,Gn,x54,x55,Gp,Gq,Gs,Gt,Gu,Gv,Gw,Gx,Gy,Gz,x66,GG,GH,x69,GI,GK,GL,GM,GN,GR,GU,GV,GX,GY,x80,x81,x82,x83,x84,x85,x86,x87,x88,x89,x90,x91,GZ,x93,FC,x95,x96,FD,x98,x99,x100,x101,x102,x103,x104,x105,nH,x107,nI,nJ,nK,nM,x112,x113,x114,x115,l9,mf,mg,mi,mr,mD,mF,mG,mJ,Y3,Y4,Y5,Y6,Y7,Y8,Y9,Za,Zb,Zc,Zd,Ze,Zf,Zg,Zh,Zi,Zj,Zk],[]⟩ ((((((W0.setCell ⟨w.heap.size+1,0,none⟩ (.string name)).setCell ⟨w.heap.size+1,1,none⟩ (.string src)).setCell ⟨w.heap.size+1,2,none⟩ (.string part)).setCell ⟨w.heap.size+1,3,none⟩ (.int .i64 fuel)).setCell ⟨w.heap.size+1,4,none⟩ (.slice Ap np cp)).setCell ⟨w.heap.size+1,5,none⟩ (.slice Ab nb cb))) :
  Code.wp Tryz.prog (aah 14) (Exit.then I (kM Q0)) ⟨#[x0,x1,.pointer (some ⟨w.heap.size+1,0,none⟩),x3,x4,x5,x6,.pointer (some ⟨w.heap.size+1+1,0,none⟩),x8,.int .i64 n,.int .i64 d,x11,x12,J4,x14,x15,x16,x17,x18,x19,x20,yj,xC,vN,x24,x25,Fh,x27,x28,x29,x30,x31,x32,EC,x34,ED,Fj,Fp,x38,x39,x40,x41,vZ,x43,wo,Fq,Fv,Fz,FB,Gi,Gj,Gl,Gm,Gn,x54,x55,Gp,Gq,Gs,Gt,Gu,Gv,Gw,Gx,Gy,Gz,x66,GG,GH,x69,GI,GK,GL,GM,GN,GR,GU,GV,GX,GY,x80,x81,x82,x83,x84,x85,x86,x87,x88,x89,x90,x91,GZ,x93,FC,x95,x96,FD,x98,x99,x100,x101,x102,x103,x104,x105,nH,x107,nI,nJ,nK,nM,x112,x113,x114,x115,l9,mf,mg,mi,mr,mD,mF,mG,mJ,nN,nO,nP,nR,nS,nT,nU,nV,nX,nY,nZ,og,oh,oq,ou,oz,oC,oD],[]⟩ wr:=by
 conv=>arg 2;whnf
 have HI:=ae hI
 have HP:=ae (fun W (hW:Below wr.heap.size wr W)=>hbx.ag (hW.block _ hbx.lt))
 have HR:=ae (fun W (hW:Below wr.heap.size wr W)=>hrs.ag (hW.block _ hrs.lt))
 have HS2:=ae (fun W (hW:Below wr.heap.size wr W)=>(show SQ6 w name src part fuel Ap np cp Ab nb cb W from by obtain⟨a0,a1,a2,a3,a4,a5,_⟩:=dP (HP.out W hW);exact⟨a0,a1,a2,a3,a4,a5⟩))
 have HS6:=ae (fun W (hW:Below wr.heap.size wr W)=>(show SQ6 w name src part fuel Ap np cp Ab nb cb ((((((W.setCell ⟨w.heap.size+1,0,none⟩ (.string name)).setCell ⟨w.heap.size+1,1,none⟩ (.string src)).setCell ⟨w.heap.size+1,2,none⟩ (.string part)).setCell ⟨w.heap.size+1,3,none⟩ (.int .i64 fuel)).setCell ⟨w.heap.size+1,4,none⟩ (.slice Ap np cp)).setCell ⟨w.heap.size+1,5,none⟩ (.slice Ab nb cb)) from by
   have hb:=Ih W (w.heap.size+1) (.string name) (.string src) (.string part) (.int .i64 fuel) (.slice Ap np cp) (.slice Ab nb cb)
   have hl:=(HP.out W hW).lt
   obtain⟨a0,a1,a2,a3,a4,a5,_⟩:=dP (HP.out W hW)
   exact⟨(hb.cell (p:=⟨w.heap.size+1+1,0,none⟩) hl (by show ¬ (w.heap.size+1+1=w.heap.size+1);omega)).trans a0,(hb.cell (p:=⟨w.heap.size+1+1,1,none⟩) hl (by show ¬ (w.heap.size+1+1=w.heap.size+1);omega)).trans a1,(hb.cell (p:=⟨w.heap.size+1+1,2,none⟩) hl (by show ¬ (w.heap.size+1+1=w.heap.size+1);omega)).trans a2,(hb.cell (p:=⟨w.heap.size+1+1,3,none⟩) hl (by show ¬ (w.heap.size+1+1=w.heap.size+1);omega)).trans a3,(hb.cell (p:=⟨w.heap.size+1+1,4,none⟩) hl (by show ¬ (w.heap.size+1+1=w.heap.size+1);omega)).trans a4,(hb.cell (p:=⟨w.heap.size+1+1,5,none⟩) hl (by show ¬ (w.heap.size+1+1=w.heap.size+1);omega)).trans a5⟩))
 have HHh:=ae (fun W (hW:Below wr.heap.size wr W)=>(HH W hW).mono fun e w' ⟨b,he,hb⟩=>(show ∃ q:Bool,e=Ending.returned (.bool q)∧SQ6 w name src part fuel Ap np cp Ab nb cb w'∧Below wr.heap.size wr w' from ⟨b,he,HS2.out _ (hW.trans (hb.mono hW.size)),hW.trans (hb.mono hW.size)⟩))
 have HBh:=ae (fun W (hW:Below wr.heap.size wr W)=>(HBk W hW).mono fun e w' ⟨b,he,hb⟩=>(show ∃ q:Bool,e=Ending.returned (.bool q)∧SQ6 w name src part fuel Ap np cp Ab nb cb w'∧Below wr.heap.size wr w' from ⟨b,he,HS2.out _ (hW.trans (hb.mono hW.size)),hW.trans (hb.mono hW.size)⟩))
 clear hI HH HBk hbx hrs
 obtain⟨d4,hd4⟩:∃ b,decide (n≤300)=b:=⟨_,rfl⟩
 obtain⟨d12,ap1⟩:∃ b,decide (d≤12)=b:=⟨_,rfl⟩
 obtain⟨z,hz⟩:∃ z:Bool,true=z:=⟨_,rfl⟩
 clear hz
 refine wp_region_held (S:=SQ6 w name src part fuel Ap np cp Ab nb cb) (by kernel_rfl) ?_
 change wpAnyH _ _ _ _ _ _ _ _ (World.drew _)
 have hB:Below wr.heap.size wr wr.drew:=(Below.refl wr.heap.size wr).drew
 generalize wr.drew=v0 at *
 have bM:=HS2.out _ hB
 refine tk 0 (.agg #[.string name,.string src,.string part,.int .i64 fuel,.slice Ap np cp,.slice Ab nb cb]) rfl bM ?_
 go_simp
 refine tk 1 (.int .i64 n) rfl bM ?_
 go_simp
 refine tk 2 (.int .i64 d) rfl bM ?_
 go_simp
 refine tk 3 (.int .i64 n) rfl bM ?_
 go_simp
 refine tk 4 (.bool d4) rfl bM ?_
 go_simp
 refine tk 5 (.bool d4) rfl bM ?_
 go_simp
 refine(tb 6 d4 z fun b _=>gv b (.int .i64 d)) bM ?_
 go_simp
 refine(tb 7 d4 z fun b _=>gv b (.bool d12)) bM ?_
 go_simp
 refine(tb 8 d4 z fun b _=>.bool (b&&d12)) bM ?_
 go_simp
 generalize (d4&&d12)=q9
 refine tk 9 (.bool q9) rfl bM ?_
 go_simp
 refine(tb 10 q9 z fun b _=>gv b (.agg #[.string name,.string src,.string part,.int .i64 fuel,.slice Ap np cp,.slice Ab nb cb])) bM ?_
 go_simp
 refine(tcr (Below wr.heap.size wr) 11 q9 z fun b _=>b) bM hB (HHh.out _ hB) ?_
 clear bM hB
 intro q11 w' bM hB
 go_simp
 generalize w'=v11 at *
 refine(tb 12 q9 z fun b _=>.bool (b&&q11)) bM ?_
 go_simp
 generalize (q9&&q11)=q13
 refine tk 13 (.bool q13) rfl bM ?_
 go_simp
 refine(tb 14 q13 z fun b _=>gv b (.pointer (some ⟨w.heap.size+1+1,5,none⟩))) bM ?_
 go_simp
 refine(tb 15 q13 z fun b _=>gv b (.slice Ab nb cb)) bM ?_
 go_simp
 refine(tcr (Below wr.heap.size wr) 16 q13 z fun b _=>b) bM hB (HBh.out _ hB) ?_
 clear bM hB
 intro q16 w' bM hB
 go_simp
 generalize w'=v16 at *
 refine(tb 17 q13 z fun b _=>.bool (b&&q16)) bM ?_
 go_simp
 generalize (q13&&q16)=q17
 obtain⟨c0,c1,c2,c3,c4,c5,cl⟩:=dP (HR.out _ hB)
 have cf:=(HR.out _ hB).frozen
 refine wpAnyH_ready (rs:=[18]) (by kernel_rfl) (by simp) ?_
 refine AllReadyH.cons rfl (fun K hK=>?_) AllReadyH.nil
 go_simp
 have bM:=HS6.out _ hB
 refine hK.out _ _ bM (fun _=>?_);clear hK K
 refine tk 19 (.int .i64 n) rfl bM ?_
 go_simp
 refine tk 20 (.int .i64 d) rfl bM ?_
 go_simp
 refine tk 21 (.bool q17) rfl bM ?_
 go_simp
 refine tk 22 (.bool true) rfl bM ?_
 go_simp
 refine wpAnyH_done (by kernel_rfl) ?_ _
 exact HI.out _ _ _ _ _ _ _ _ _ _ _ _ _ _ _ _ _ _ _ _ _ _ _ hB rfl rfl ⟨_,rfl⟩ rfl
def aaj (w:World) (e:Ending) (w':World):Prop :=
 ∃ (nm sr pt:ByteArray) (fu:Int) (Ap:Option Addr) (np cp:Nat) (Ab:Option Addr) (nb cb:Nat) (n d:Int) (r ok:Bool),
  e=.returned (.tuple #[.agg #[.string nm,.string sr,.string pt,.int .i64 fu,.slice Ap np cp,.slice Ab nb cb],.int .i64 n,.int .i64 d,.bool r,.bool ok])∧Below w.heap.size w w' ∧
  (ok=true→∃ p:Pr,lH (fun b=>b<w'.heap.size) 101 w' [.string nm,.string sr,.string pt,.int .i64 fu,.slice Ap np cp,.slice Ab nb cb] p∧p.params.length≤12)
def aka (np nk:Nat) (w1:World) (u:Value) (W:World):Prop:=∃ b:Bool,u=.bool b∧(b=false→np≤12∧nk≤12)∧w1=W
theorem aak {w:World} {g:Nat} {T:TypeId} {v0 v1 v2 v3 v4 v5 v6 v7:Value} (h:af w g T #[v0,v1,v2,v3,v4,v5,v6,v7]) :
  w.cell? ⟨g,0,none⟩=some v0∧w.cell? ⟨g,1,none⟩=some v1∧w.cell? ⟨g,2,none⟩=some v2∧w.cell? ⟨g,3,none⟩=some v3∧w.cell? ⟨g,4,none⟩=some v4∧w.cell? ⟨g,5,none⟩=some v5∧w.cell? ⟨g,6,none⟩=some v6∧w.cell? ⟨g,7,none⟩=some v7∧g<w.heap.size:=by
 have h0:=h.cell 0;have h1:=h.cell 1;have h2:=h.cell 2;have h3:=h.cell 3;have h4:=h.cell 4;have h5:=h.cell 5;have h6:=h.cell 6;have h7:=h.cell 7
 simp at h0 h1 h2 h3 h4 h5 h6 h7
 exact⟨h0,h1,h2,h3,h4,h5,h6,h7,h.lt⟩
structure II (w w4 wr:World) (name src part:ByteArray) (fuel:Int) (Ap:Option Addr) (np cp:Nat) (body:List St) (Bb:Option Addr) (db:Nat):Prop where
 box:af wr (w.heap.size+1+1) 30 #[.string name,.string src,.string part,.int .i64 fuel,.slice Ap np cp,.slice Bb body.length db]
 RY:lL w4.heap.size wr 49 8 (bQ (fun b=>b<w4.heap.size∧b≠w.heap.size+1+1∧b≠w.heap.size+1) 101 w4) body Bb db
 but:But (fun b=>b=w.heap.size+1+1) w4 wr
theorem II.start {w w4:World} {name src part:ByteArray} {fuel:Int} {Ap:Option Addr} {np cp:Nat} (h:af w4 (w.heap.size+1+1) 30 #[.string name,.string src,.string part,.int .i64 fuel,.slice Ap np cp,.slice none 0 0]):II w w4 w4 name src part fuel Ap np cp [] none 0 :=
 ⟨h,lL.nil_ _ _ _ _ _,But.refl _ _⟩
theorem II.drewN {w w4 wr:World} {name src part:ByteArray} {fuel:Int} {Ap:Option Addr} {np cp:Nat} {body:List St} {Bb:Option Addr} {db:Nat} (h:II w w4 wr name src part fuel Ap np cp body Bb db) (a:Nat):II w w4 (wr.drewN a) name src part fuel Ap np cp body Bb db:=⟨h.box,h.RY,h.but.drewN a⟩
theorem II.add {w w4 wr w3:World} {name src part:ByteArray} {fuel:Int} {Ap:Option Addr} {np cp mB:Nat} {body:List St} {Bb A3:Option Addr} {db c3:Nat} {rows:List (List Value)} {re:List Value} {a:St} {o:Obj} (h:II w w4 wr name src part fuel Ap np cp body Bb db) (hm:body.length=mB) (hg:w.heap.size+1+1<w4.heap.size)
    (hrl:rows.length=body.length) (hrw:∀ r∈rows,r.length=8) (uT:∀ (j:Nat) (r:List Value) (e:St),rows[j]?=some r→body[j]?=some e→bQ (fun b=>b<w4.heap.size∧b≠w.heap.size+1+1∧b≠w.heap.size+1) 101 w4 r e) (hre:re.length=8) (hra:bQ (fun b=>b<w4.heap.size∧b≠w.heap.size+1+1∧b≠w.heap.size+1) 101 w4 re a)
    (hown3:w3.ownsRow w4.heap.size 49 8 (.slice A3 (mB+1) c3) (mB+1) (rows++[re]).flatten) (dB:But (fun k=>Bb.map (·.block)=some k) ((wr.drew).alloc o) w3) (hf3:∀ a2,A3=some a2→Bb=some a2∨((wr.drew).alloc o).heap.size≤a2.block) :
    II w w4 (w3.setCell ⟨w.heap.size+1+1,5,none⟩ (.slice A3 (mB+1) c3)) name src part fuel Ap np cp (body++[a]) A3 c3:=by
  have hl:(body++[a]).length=mB+1:=by simp[hm]
  have hz:=h.but.size
  have hlo:=h.RY.lo
  have hg3:¬ Bb.map (·.block)=some (w.heap.size+1+1):=fun e=>by
    cases Bb with
    | none=>cases e
    | some a1 => have:=(hlo a1 rfl).1;have e:a1.block=w.heap.size+1+1:=by simpa using e
                 omega
  have hgb:But (fun b=>Bb.map (·.block)=some b∨b=w.heap.size+1+1) wr (w3.setCell ⟨w.heap.size+1+1,5,none⟩ (.slice A3 (mB+1) c3)):=(gQ (w2:=w4) (j:=5) (u:=.slice A3 (mB+1) c3) (B:=none) hlo (fun b hb=>by cases hb) (.inl (kU _)) hg dB hf3).1
  have hbx:af (w3.setCell ⟨w.heap.size+1+1,5,none⟩ (.slice A3 (mB+1) c3)) (w.heap.size+1+1) 30 _:=(((show af wr.drew (w.heap.size+1+1) _ _ from h.box).alloc o).ag (dB.block (w.heap.size+1+1) (by have:=h.box.lt;simp;omega) hg3)).stored 5 (.slice A3 (mB+1) c3)
  have hown:lL w4.heap.size (w3.setCell ⟨w.heap.size+1+1,5,none⟩ (.slice A3 (mB+1) c3)) 49 8 (bQ (fun b=>b<w4.heap.size∧b≠w.heap.size+1+1∧b≠w.heap.size+1) 101 w4) (body++[a]) A3 c3 :=
    (lL.add hrl hrw uT hre hra hm hown3).keep ((But.refl (fun b=>b=w.heap.size+1+1) w3).setCell (p:=⟨w.heap.size+1+1,5,none⟩) (.inl rfl) _) fun a3 ha e=>by
      rcases hf3 a3 ha with h1|h1
      · have:=(hlo a3 h1).1;omega
      · simp at h1;omega
  have fE : But (fun b=>b=w.heap.size+1+1) w4 (w3.setCell ⟨w.heap.size+1+1,5,none⟩ (.slice A3 (mB+1) c3)):=h.but.trans hgb fun i hi=>by
    rcases hi with hi|hi
    · cases Bb with
      | none=>cases hi
      | some a1 => have:=(hlo a1 rfl).1;have e:a1.block=i:=by simpa using hi
                   exact .inr (by omega)
    · exact .inl hi
  exact⟨by rw[hl];exact hbx,hown,fE⟩
def akb (w w4:World) (name src part:ByteArray) (fuel:Int) (Ap:Option Addr) (np cp:Nat) (a9 a10:Value) (wr:World):Prop :=
 ∃ (body:List St) (Bb:Option Addr) (db:Nat),body.length≤12∧a9=.int .i64 (sumT (body.map aX))∧a10=.int .i64 (G6 (body.map aX))∧II w w4 wr name src part fuel Ap np cp body Bb db
def akc (w w4:World) (name src part:ByteArray) (fuel:Int) (Ap:Option Addr) (np cp nk:Nat) (a9 a10 a11:Value) (wr:World):Prop :=
 ∃ (q:Nat) (body:List St) (Bb:Option Addr) (db:Nat),q≤nk∧body.length≤q∧a9=.int .i64 (sumT (body.map aX))∧a10=.int .i64 (G6 (body.map aX))∧a11=.int .i64 q∧II w w4 wr name src part fuel Ap np cp body Bb db
theorem yU.below {F:Nat→Prop} {w w':World} {r:List Value} {x:Lf} (h:yU F w r x) (hb:Below w.heap.size w w'):yU F w' r x:=by
 obtain⟨h1,h2,h3,h4,h5,A,m,c,hr,hl⟩:=h
 exact⟨h1,h2,h3,h4,h5,A,m,c,hr,hl.below hb⟩
theorem yV.below {F:Nat→Prop} {w w':World} {r:List Value} {x:Kn} (h:yV F w r x) (hb:Below w.heap.size w w'):yV F w' r x:=by
 obtain⟨h1,h2,h3,h4,Ac,nc,cc,Ae,ne,ce,Ab,nb,cb,Al,nl,cl,hr,k1,k2,k3,k4⟩:=h
 exact⟨h1,h2,h3,h4,Ac,nc,cc,Ae,ne,ce,Ab,nb,cb,Al,nl,cl,hr,k1.below hb,k2.below hb,k3.below hb,k4.below hb⟩
theorem adw (F:Nat→Prop) (name src part:ByteArray) (fuel:Int) (Ap:Option Addr) (np cp:Nat) (params:List Co) (A A':Option Addr) (n c n' c':Nat) (xs:List Lf) (ys:List Kn) (Ak:Option Addr) (nk ck:Nat) (ks:List Int) (w:World)
  (hp:ai F w 2 rO Ap np cp params) (h1:ai F w 6 (yU F w) A n c xs) (h2:ai F w 8 (yV F w) A' n' c' ys) (hks:ai F w 1 kD Ak nk ck ks) (hF:∀ k,F k→k<w.heap.size) (uU:okS name) (oks:okS src) (okp:okS part) (okf:okI fuel) :
  Calls Tryz.prog 4 #[.agg #[.string name,.string src,.string part,.int .i64 fuel,.slice Ap np cp,.slice A n c,.slice A' n' c',.slice Ak nk ck]] w (aaj w):=by
 have hnp:=hp.gu
 have hnk:=hks.gu
 obtain⟨w1,Hw1⟩:∃ w1,Hid (w1=((w.alloc (.cells #[.string name,.string src,.string part,.int .i64 fuel,.slice Ap np cp,.slice A n c,.slice A' n' c',.slice Ak nk ck] 27)).alloc (.cells #[.string { data:=#[] },.string { data:=#[] },.string { data:=#[] },.int .i64 0,.slice none 0 0,.slice none 0 0] 30)).alloc (.cells #[.string name,.string src,.string part,.int .i64 fuel,.slice Ap np cp,.slice none 0 0] 30)):=⟨_,rfl⟩
 have hb1:Below w.heap.size w w1:=by rw[Hw1.out];exact(((Below.refl _ _).alloc (Nat.le_refl _) _).alloc (by simp) _).alloc (by simp;omega) _
 have hz1:w1.heap.size=w.heap.size+3:=by rw[Hw1.out];simp
 have hs1:af w1 w.heap.size 27 #[.string name,.string src,.string part,.int .i64 fuel,.slice Ap np cp,.slice A n c,.slice A' n' c',.slice Ak nk ck]:=by rw[Hw1.out];exact((af.laid _ _ _).alloc _).alloc _
 have hr1:af w1 (w.heap.size+1) 30 #[.string { data:=#[] },.string { data:=#[] },.string { data:=#[] },.int .i64 0,.slice none 0 0,.slice none 0 0]:=by rw[Hw1.out];exact(fZ (by simp) _ _).alloc _
 have hq1:af w1 (w.heap.size+1+1) 30 #[.string name,.string src,.string part,.int .i64 fuel,.slice Ap np cp,.slice none 0 0]:=by rw[Hw1.out];exact fZ (by simp) _ _
 have HG:=ae (fun W (hW:Below w.heap.size w W)=>WH F A A' n c n' c' xs ys W (h1.conv (Kept.of_below hW) (fun _ _ _ h=>h) (fun r x _ hx=>yU.below hx hW)) (h2.conv (Kept.of_below hW) (fun _ _ _ h=>h) (fun r x _ hx=>yV.below hx hW)))
 have HBd:=ae (fun W (hW:Below w.heap.size w W)=>Wy F A A' n c n' c' xs ys W (h1.conv (Kept.of_below hW) (fun _ _ _ h=>h) (fun r x _ hx=>yU.below hx hW)) (h2.conv (Kept.of_below hW) (fun _ _ _ h=>h) (fun r x _ hx=>yV.below hx hW)) (fun k hk=>Nat.lt_of_lt_of_le (hF k hk) hW.size))
 have Hp:=ae hp
 have H1:=ae h1
 have H2:=ae h2
 have Hks:=ae hks
 have Hs1:=ae hs1
 have iG:=ae hr1
 have SK:=ae hq1
 have Hb1:=ae hb1
 obtain⟨s0,s1,s2,s3,s4,s5,s6,s7,sl⟩:=aak hs1
 obtain⟨p0,p1,p2,p3,p4,p5,pl⟩:=dP hq1
 clear hp h1 h2 hks hs1 hr1 hq1 hb1
 unfold okS at uU oks okp
 go_enter Tryz.func4,Tryz.ntmps4
 go_upto_region 2 with (fail)
 rw[← Hw1.out]
 go_cut [58] (fun u W=>aka np nk w1 u W)
 case first =>
  by_cases hnp:np≤12
  ·by_cases hnk:nk≤12
   ·have HR:Hid (np≤12∧nk≤12):=ae ⟨hnp,hnk⟩
    have e1:¬ (12:Int)<(np:Int):=by omega
    have e2:¬ (12:Int)<(nk:Int):=by omega
    go_wp2_with (go_at_call 9;refine(HG.out _ Hb1.out).mono ?_;rintro e w' ⟨b,rfl,rfl⟩;cases b)
    all_goals
     go_meet
     exact⟨_,rfl,fun _=>HR.out,rfl⟩
   ·have e1:¬ (12:Int)<(np:Int):=by omega
    have e2:(12:Int)<(nk:Int):=by omega
    go_wp2_with (go_at_call 9;refine(HG.out _ Hb1.out).mono ?_;rintro e w' ⟨b,rfl,rfl⟩;cases b)
    all_goals
     go_meet
     exact⟨_,rfl,(fun h=>by cases h),rfl⟩
  ·have e1:(12:Int)<(np:Int):=by omega
   go_wp2_with (go_at_call 9;refine(HG.out _ Hb1.out).mono ?_;rintro e w' ⟨b,rfl,rfl⟩;cases b)
   all_goals
    go_meet
    exact⟨_,rfl,(fun h=>by cases h),rfl⟩
 case rest =>
  obtain⟨b,rfl,hbd,rfl⟩:=hcut
  obtain⟨r0,r1,r2,r3,r4,r5,rl⟩:=dP iG.out
  have rf:=iG.out.frozen
  cases b
  rotate_left
  ·clear hbd
   go_wp2
   refine bodyPost_ret (v:=.tuple #[.agg #[.string name,.string src,.string part,.int .i64 fuel,.slice Ap np cp,.slice none 0 0],.int .i64 0,.int .i64 0,.bool false,.bool false]) (by simp[results,Tryz.results4,go_sem,r0,r1,r2,r3,r4,r5]) rfl ⟨name,src,part,fuel,Ap,np,cp,none,0,0,0,0,false,false,rfl,?_,fun h=>by cases h⟩
   exact Hb1.out.trans ((But.below' (Ih w1 (w.heap.size+1) _ _ _ _ _ _) Hb1.out.size (fun b e=>by rw[e];omega)))
  ·obtain⟨af9,akd⟩:=hbd rfl
   clear hbd r0 r1 r2 r3 r4 r5 rl rf
   go_upto_region 5 with (go_at_call 10;refine(HBd.out _ Hb1.out).mono ?_;rintro e w3 ⟨row,es,ss,rfl,⟨A0,c0,A1,c1,A2,c2,A3,c3,A4,c4,A5,c5,rfl,te,tn,td,ts,tm,tdp,aoG,aoH⟩,hb3⟩;clear te tn td)
   obtain⟨w4,FK⟩:∃ w4,Hid (w4=w3.alloc (.cells #[.slice A0 es.length c0,.slice A1 es.length c1,.slice A2 es.length c2,.slice A3 ss.length c3,.slice A4 ss.length c4,.slice A5 ss.length c5] 44)):=⟨_,rfl⟩
   rw[← FK.out]
   have adx:Below w3.heap.size w3 w4:=by rw[FK.out];exact(Below.refl _ _).alloc (Nat.le_refl _) _
   have hz4:w4.heap.size=w3.heap.size+1:=by rw[FK.out];simp
   have ht4:af w4 w3.heap.size 44 #[.slice A0 es.length c0,.slice A1 es.length c1,.slice A2 es.length c2,.slice A3 ss.length c3,.slice A4 ss.length c4,.slice A5 ss.length c5]:=by rw[FK.out];exact af.laid _ _ _
   have aal:Below w1.heap.size w1 w4:=hb3.trans (adx.mono hb3.size)
   have Hq4:=ae (SK.out.ag (aal.block _ SK.out.lt))
   have Hs4:=ae (Hs1.out.ag (aal.block _ Hs1.out.lt))
   have jg:=ae (iG.out.ag (aal.block _ iG.out.lt))
   have ap3:=hb3.size
   have hFQ:∀ b,(b<w3.heap.size∧(b<w1.heap.size→F b))→(b<w4.heap.size∧b≠w.heap.size+1+1∧b≠w.heap.size+1):=fun b hb=>⟨by omega,(fun e=>by
    have:=hF b (hb.2 (by omega))
    omega),(fun e=>by
    have:=hF b (hb.2 (by omega))
    omega)⟩
   have Hts:=ae (aP.conv hFQ (Kept.of_below adx) (Nat.le_refl _) ts)
   have Htm:=ae (ai.conv (F':=fun b=>b<w4.heap.size∧b≠w.heap.size+1+1∧b≠w.heap.size+1) tm (Kept.of_below adx) (fun a _ _ h=>hFQ _ h) (fun _ _ _ h=>h))
   have Htd:=ae (ai.conv (F':=fun b=>b<w4.heap.size∧b≠w.heap.size+1+1∧b≠w.heap.size+1) tdp (Kept.of_below adx) (fun a _ _ h=>hFQ _ h) (fun _ _ _ h=>h))
   have ake:=ae (Hb1.out.trans (aal.mono Hb1.out.size))
   have tK:=ae (Hks.out.below (Hb1.out.trans (aal.mono Hb1.out.size)))
   generalize hm:ss.length=m at *
   have Hm:=ae hm
   generalize es.length=nes at *
   have Ht4:=ae ht4
   clear hm ts tm tdp ht4 hFQ s0 s1 s2 s3 s4 s5 s6 s7 sl p0 p1 p2 p3 p4 p5 pl
   have HE4:=ae (II.start (w:=w) (src:=src) (part:=part) (fuel:=fuel) Hq4.out)
   have HX4:=ae (fun W (hW:But (fun b=>b=w.heap.size+1+1) w4 W)=>And.intro (aak (Hs4.out.ag (hW.block _ Hs4.out.lt (by omega)))) (dP (Ht4.out.ag (hW.block _ Ht4.out.lt (by omega)))))
   go_upto_block 0 with (fail)
   go_cut [9,10] (fun u9 u10 W=>akb w w4 name src part fuel Ap np cp u9 u10 W)
   case first =>
    go_wp2_with fail
    go_loopw [9,10,11] (fun a9 a10 a11 wr=>akc w w4 name src part fuel Ap np cp nk a9 a10 a11 wr) (fun _ _ i _=>nk-(intOf i).toNat)
    case atStart=>exact⟨0,[],_,_,Nat.zero_le _,Nat.le_refl _,rfl,rfl,rfl,HE4.out⟩
    case round =>
     obtain⟨q,body,Bb,db,hq,hal,rfl,rfl,rfl,hE⟩:=hrel
     have HE:=ae hE
     have hsb:=Dj (l:=body.map aX) (fun t ht=>by obtain⟨a,_,rfl⟩:=List.mem_map.1 ht;exact iy a)
     have htb:=adp (l:=body.map aX) (fun t ht=>by obtain⟨a,_,rfl⟩:=List.mem_map.1 ht;exact iy a)
     rw[List.length_map] at hsb
     obtain⟨hsum,htop,hs2,ht2,lK,lG⟩:∃ hsum htop:Int,(0≤hsum∧hsum≤12000)∧(0≤htop∧htop≤1000)∧Hid (sumT (body.map aX)=hsum)∧Hid (G6 (body.map aX)=htop):=⟨_,_,by omega,htb,rfl,rfl⟩
     obtain⟨hs0,hs1⟩:=hs2
     obtain⟨ht0,ht1⟩:=ht2
     clear hsb htb
     rw[lK.out,lG.out]
     generalize hmb:body.length=mB at *
     have PV:=ae hmb
     clear hmb hE
     obtain⟨⟨s0,s1,s2,s3,s4,s5,s6,s7,sl⟩,t0,t1,t2,t3,t4,t5,tl⟩:=HX4.out wr HE.out.but
     by_cases hlt:q<nk∧0<m
     ·obtain⟨hqk,hm0⟩:=hlt
      have d1:decide ((q:Int)<(nk:Int))=true:=by simp;omega
      have d2:decide ((0:Int)<(m:Int))=true:=by simp;omega
      obtain⟨bk,ok,rk,v,rfl,hbk,_,_,_,hv,hcv⟩:=(tK.out.kept (Kept.aN HE.out.but (fun b hb=>by have:=hF b hb;omega))).get hqk
      obtain⟨rfl,okv⟩:=hv
      have hcv:=hcv 0 _ rfl
      rw[Nat.mul_one,Nat.add_zero] at hcv
      go_wp2
      go_quiet (fail)
      go_wp2
      rw[PZ v m hm0 (by omega)]
      obtain⟨j,Hj⟩:∃ j,Hid (zi v m=j):=⟨_,rfl⟩
      have hjm:j<m:=by rw[← Hj.out];exact wI v m hm0
      rw[Hj.out]
      have HEq:=ae (HE.out.drewN nq)
      obtain⟨b0,o0,re,a,rfl,hb0,hF0,haj,hrl2,hpa,hca⟩:=ai.get Hts.out (k:=j) hjm
      obtain⟨p1,p2,p3,p4,yX,zx,yY,zy,zA,zB,xI,xJ,cb2,zC,zD,zF,rfl,h6⟩:=hpa
      have Hpa:Hid (bQ (fun b=>b<w4.heap.size∧b≠w.heap.size+1+1∧b≠w.heap.size+1) 101 w4 [.int .i64 a.op,.string a.name,.string a.src,.int .i64 a.n,.slice yX zx yY,.slice zy zA zB,.slice xI xJ cb2,.slice zC zD zF] a):=ae ⟨p1,p2,p3,p4,yX,zx,yY,zy,zA,zB,xI,xJ,cb2,zC,zD,zF,rfl,h6⟩
      clear h6
      obtain⟨b1,oo1,r1,y1,rfl,hb1',hF1,hy1,_,hr1,hcn⟩:=Htm.out.get (k:=j) hjm
      obtain⟨b2,oo2,r2,y2,rfl,hb2',hF2,hy2,_,hr2,hcd⟩:=Htd.out.get (k:=j) hjm
      obtain⟨rfl,_⟩:=hr1
      obtain⟨rfl,_⟩:=hr2
      rw[List.getElem?_map,haj] at hy1 hy2
      injection hy1 with hy1
      injection hy2 with hy2
      subst hy1 hy2
      have hcn:=hcn 0 _ rfl
      have hcd:=hcd 0 _ rfl
      rw[Nat.mul_one,Nat.add_zero] at hcn hcd
      have hR:=fun b (hb:b<w4.heap.size∧b≠w.heap.size+1+1∧b≠w.heap.size+1) i=>World.cell?_of_block (a:=⟨b,i,none⟩) (HE.out.but.block b hb.1 hb.2.1)
      have e0:(wr.drewN nq).cell? ⟨b0,o0+j*8,none⟩=some (.int .i64 a.op):=by have h:=(hR b0 hF0 _).trans (hca 0 _ rfl);rw[Nat.add_zero] at h;exact h
      have e1:(wr.drewN nq).cell? ⟨b0,o0+j*8+1,none⟩=some (.string a.name):=(hR b0 hF0 _).trans (hca 1 _ rfl)
      have e2:(wr.drewN nq).cell? ⟨b0,o0+j*8+2,none⟩=some (.string a.src):=(hR b0 hF0 _).trans (hca 2 _ rfl)
      have e3:(wr.drewN nq).cell? ⟨b0,o0+j*8+3,none⟩=some (.int .i64 a.n):=(hR b0 hF0 _).trans (hca 3 _ rfl)
      have e4:(wr.drewN nq).cell? ⟨b0,o0+j*8+4,none⟩=some (.slice yX zx yY):=(hR b0 hF0 _).trans (hca 4 _ rfl)
      have e5:(wr.drewN nq).cell? ⟨b0,o0+j*8+5,none⟩=some (.slice zy zA zB):=(hR b0 hF0 _).trans (hca 5 _ rfl)
      have e6:(wr.drewN nq).cell? ⟨b0,o0+j*8+6,none⟩=some (.slice xI xJ cb2):=(hR b0 hF0 _).trans (hca 6 _ rfl)
      have e7:(wr.drewN nq).cell? ⟨b0,o0+j*8+7,none⟩=some (.slice zC zD zF):=(hR b0 hF0 _).trans (hca 7 _ rfl)
      have f1:(wr.drewN nq).cell? ⟨b1,oo1+j,none⟩=some (.int .i64 (aX a).1):=(hR b1 hF1 _).trans hcn
      have f2:(wr.drewN nq).cell? ⟨b2,oo2+j,none⟩=some (.int .i64 (aX a).2):=(hR b2 hF2 _).trans hcd
      obtain⟨y0,y1,y2,y3,y4,y5,yl⟩:=dP HE.out.box
      rw[PV.out] at y5
      replace y5:(wr.drewN nq).cell? ⟨w.heap.size+1+1,5,none⟩=some (.slice Bb mB db):=y5
      replace yl:w.heap.size+1+1<(wr.drewN nq).heap.size:=yl
      replace t3:(wr.drewN nq).cell? ⟨w3.heap.size,3,none⟩=some (.slice (some ⟨b0,o0,none⟩) m c3):=t3
      replace t4:(wr.drewN nq).cell? ⟨w3.heap.size,4,none⟩=some (.slice (some ⟨b1,oo1,none⟩) m c4):=t4
      replace t5:(wr.drewN nq).cell? ⟨w3.heap.size,5,none⟩=some (.slice (some ⟨b2,oo2,none⟩) m c5):=t5
      replace tl:w3.heap.size<(wr.drewN nq).heap.size:=tl
      clear hR hca hcn hcd
      generalize wr.drewN nq=W5 at *
      obtain⟨rows,hown,hrlen,tN,uT⟩:=HEq.out.RY
      rw[PV.out] at hown
      have SH:=ae uT
      have Vu:=ae tN
      have Hrl:=ae hrlen
      clear uT tN hrlen
      have hg2:=HEq.out.but.size
      have hfz:=HEq.out.box.frozen
      have hp4:w.heap.size+1+1<w3.heap.size:=by have:=SK.out.lt;omega
      have hownA:(W5.drew.alloc (.cells #[.int .i64 a.op,.string a.name,.string a.src,.int .i64 a.n,.slice yX zx yY,.slice zy zA zB,.slice xI xJ cb2,.slice zC zD zF] 49)).ownsRow w4.heap.size 49 8 (.slice Bb mB db) mB rows.flatten:=World.ownsRow.alloc (show W5.drew.ownsRow w4.heap.size 49 8 (.slice Bb mB db) mB rows.flatten from hown) _
      have Dk:az (W5.drew.alloc (.cells #[.int .i64 a.op,.string a.name,.string a.src,.int .i64 a.n,.slice yX zx yY,.slice zy zA zB,.slice xI xJ cb2,.slice zC zD zF] 49)) 8 (some ⟨W5.heap.size,0,none⟩) 1 1 [[.int .i64 a.op,.string a.name,.string a.src,.int .i64 a.n,.slice yX zx yY,.slice zy zA zB,.slice xI xJ cb2,.slice zC zD zF]]:=az.nG _ _ 1 (by rfl) rfl (by simp) rfl (by unfold maxLen;omega)
      have hm1:mB+1≤maxLen:=by unfold maxLen;omega
      have hm2:(mB+1)*144≤140737488355328:=by omega
      have Vw:w4.heap.size≤(W5.drew.alloc (.cells #[.int .i64 a.op,.string a.name,.string a.src,.int .i64 a.n,.slice yX zx yY,.slice zy zA zB,.slice xI xJ cb2,.slice zC zD zF] 49)).heap.size:=by simp;omega
      have hlo:=HEq.out.RY.lo
      have hAl:∀ b,b<w4.heap.size→¬ Bb.map (·.block)=some b:=by
       intro b hb e
       cases Bb with
       | none=>cases e
       | some a2 =>
        have h:=(hlo a2 rfl).1
        simp at e
        omega
      have SY:=ae hAl
      clear hAl hlo
      have Dl:=ae (fun (w6:World) (hb:But (fun k=>Bb.map (·.block)=some k) (W5.drew.alloc (.cells #[.int .i64 a.op,.string a.name,.string a.src,.int .i64 a.n,.slice yX zx yY,.slice zy zA zB,.slice xI xJ cb2,.slice zC zD zF] 49)) w6) (b:Nat) (hb0:b<w4.heap.size) (i:Nat)=>(hb.cell (p:=⟨b,i,none⟩) (by simp;omega) (SY.out b hb0)).trans (World.cell?_alloc_lt W5.drew _ ⟨b,i,none⟩ (show b<W5.heap.size by omega)))
      have Hf3:=ae (fun (w6:World) (hb:But (fun k=>Bb.map (·.block)=some k) (W5.drew.alloc (.cells #[.int .i64 a.op,.string a.name,.string a.src,.int .i64 a.n,.slice yX zx yY,.slice zy zA zB,.slice xI xJ cb2,.slice zC zD zF] 49)) w6)=>(((show af W5.drew (w.heap.size+1+1) _ _ from HEq.out.box).alloc _).ag (hb.block _ (by simp;omega) (SY.out _ (by omega)))).frozen)
      have Hsn:=ae (sumT_snoc (body.map aX) (aX a))
      have Htn:=ae (WA (body.map aX) (aX a))
      have ⟨ta0,ta1,ta2,ta3⟩:=iy a
      generalize htl:aX a=tl' at *
      have KE:=ae htl
      clear htl
      have n0:w3.heap.size≠w.heap.size+1+1:=by omega
      have n1:b1≠w.heap.size+1+1:=hF1.2.1
      have n2:b2≠w.heap.size+1+1:=hF2.2.1
      have hl1:=hF1.1
      have hl2:=hF2.1
      go_region_law (refine Dn (base:=w4.heap.size) (xs:=rows) (news:=[[.int .i64 a.op,.string a.name,.string a.src,.int .i64 a.n,.slice yX zx yY,.slice zy zA zB,.slice xI xJ cb2,.slice zC zD zF]]) rfl rfl Vq rfl hownA rfl Dk (by simp) (by simp[Value.oneCell']) hm1 hm2 Vw ?_;intro A6 c6 w6 hown6 dS FM;have ap8:=Hf3.out w6 dS;have z0:=(Dl.out w6 dS _ (by omega) 5).trans y5)
      all_goals
       have z4:=(Dl.out w6 dS w3.heap.size (by omega) 4).trans t4
       have z5:=(Dl.out w6 dS w3.heap.size (by omega) 5).trans t5
       have z6:=(Dl.out w6 dS b1 hl1 (oo1+j)).trans f1
       have z7:=(Dl.out w6 dS b2 hl2 (oo2+j)).trans f2
       go_wp2
       all_goals
        go_roundw
        case rel =>
         have hA:=HEq.out.add PV.out (by omega) Hrl.out Vu.out SH.out rfl Hpa.out hown6 dS FM
         refine⟨q+1,body++[a],A6,c6,by omega,by rw[List.length_append,PV.out];simp<;>omega,?_,?_,by go_num,hA⟩
         ·rw[List.map_append,List.map_cons,List.map_nil,KE.out,Hsn.out,lK.out]
         ·first|(rw[List.map_append,List.map_cons,List.map_nil,KE.out,Htn.out,lG.out];done)|(rw[List.map_append,List.map_cons,List.map_nil,KE.out,Htn.out,lG.out]<;>first|rw[Dp]|exact congrArg (Value.int .i64) (by omega))
        case measure=>simp[intOf];omega
     ·have Hm9:=ae (And.intro lK.out lG.out)
      go_wp2
      all_goals
       go_meet
       rw[← lK.out,← lG.out]
       exact⟨body,Bb,db,by have:=PV.out;omega,rfl,rfl,HE.out⟩
   case rest =>
    obtain⟨body,Bb,db,Dq,rfl,rfl,hE⟩:=hcut
    have HE:=ae hE
    have ap9:=ae Dq
    clear hE Dq
    generalize wc=W at *
    have fE:=HE.out.but
    have hlow:Below w.heap.size w W:=ake.out.trans (fE.below' ake.out.size (fun i e=>by omega))
    have hrs:=jg.out.ag (fE.block _ jg.out.lt (by omega))
    have hbs:aP (fun b=>b≠w.heap.size+1) 101 W Bb body.length db body:=HE.out.RY.ls (fun b hb=>by omega) (fun r x hx=>bQ.turn (fun b _ hb=>hb.2.2) (Kept.aN fE (fun b hb e=>hb.2.1 e)) 101 (Nat.le_refl _) hx)
    have HH:=ae (fun W' (hW:Below W.heap.size W W')=>SX F name src part fuel Ap Bb np cp body.length db params W' (Hp.out.below (hlow.trans (hW.mono hlow.size))) uU oks)
    have HBk:=ae (fun W' (hW:Below W.heap.size W W')=>wH (fun b=>b≠w.heap.size+1) 101 (Md _ _) Bb body.length db body W' (aP.below hbs hW))
    obtain⟨n5,d5,Hnd⟩:∃ n5 d5,Hid (rP (sumT (body.map aX),G6 (body.map aX))=(n5,d5)):=⟨_,_,rfl⟩
    have ht:Calls Tryz.prog 11 #[.int .i64 (sumT (body.map aX)),.int .i64 (G6 (body.map aX))] W fun x w'=>x=.returned (.tuple #[.int .i64 n5,.int .i64 d5])∧W=w':=by
     have h:=EG (sumT (body.map aX)) (G6 (body.map aX)) W
     rw[Hnd.out] at h
     exact h
    have Ht:=ae ht
    have Hrs:=ae hrs
    have Hbs:=ae hbs
    have wG:=ae hlow
    have aqb:=ae fE
    clear ht hrs hbs hlow fE
    clear Hnd
    generalize sumT (body.map aX)=s9 at *
    generalize G6 (body.map aX)=s10 at *
    go_upto_region 14 with (go_at_call 11;refine Ht.out.mono ?_;rintro x w' ⟨rfl,rfl⟩)
    refine Code.wp_mono fM (aai name src part fuel n5 d5 Ap Bb np cp body.length db w W HE.out.box Hrs.out HH.out HBk.out ?_)
    rintro y3 y4 y5 y6 Y3 Y4 Y5 Y6 Y7 Y8 Y9 Za Zb Zc Zd Ze Zf Zg Zh Zi Zj Zk W0 hb0 h3 h4 ⟨q5,h5⟩ h6
    subst h3 h4 h5 h6
    have hbx0:=HE.out.box.ag (hb0.block _ HE.out.box.lt)
    have akf:=Hrs.out.ag (hb0.block _ Hrs.out.lt)
    have hbt:=Ih W0 (w.heap.size+1) (.string name) (.string src) (.string part) (.int .i64 fuel) (.slice Ap np cp) (.slice Bb body.length db)
    have hrow:af ((((((W0.setCell ⟨w.heap.size+1,0,none⟩ (.string name)).setCell ⟨w.heap.size+1,1,none⟩ (.string src)).setCell ⟨w.heap.size+1,2,none⟩ (.string part)).setCell ⟨w.heap.size+1,3,none⟩ (.int .i64 fuel)).setCell ⟨w.heap.size+1,4,none⟩ (.slice Ap np cp)).setCell ⟨w.heap.size+1,5,none⟩ (.slice Bb body.length db)) (w.heap.size+1) 30 #[.string name,.string src,.string part,.int .i64 fuel,.slice Ap np cp,.slice Bb body.length db]:=(((((akf.stored 0 (.string name)).stored 1 (.string src)).stored 2 (.string part)).stored 3 (.int .i64 fuel)).stored 4 (.slice Ap np cp)).stored 5 (.slice Bb body.length db)
    obtain⟨Wz,HWz⟩:∃ Wz,Hid (((((((W0.setCell ⟨w.heap.size+1,0,none⟩ (.string name)).setCell ⟨w.heap.size+1,1,none⟩ (.string src)).setCell ⟨w.heap.size+1,2,none⟩ (.string part)).setCell ⟨w.heap.size+1,3,none⟩ (.int .i64 fuel)).setCell ⟨w.heap.size+1,4,none⟩ (.slice Ap np cp)).setCell ⟨w.heap.size+1,5,none⟩ (.slice Bb body.length db))=Wz):=⟨_,rfl⟩
    rw[HWz.out] at hbt hrow ⊢
    obtain⟨r0,r1,r2,r3,r4,r5,rl⟩:=dP hrow
    have rf:=hrow.frozen
    have Hbt:=ae hbt
    have Hb0:=ae hb0
    have HkW:Hid (Kept (fun b=>b≠w.heap.size+1) W Wz):=ae ((Kept.of_below (F:=fun b=>b≠w.heap.size+1) hb0).trans (Kept.aN hbt (fun b hb e=>hb e)))
    have HlW:Hid (Below w.heap.size w Wz):=ae ((wG.out.trans (hb0.mono wG.out.size)).trans (hbt.below' (Nat.le_trans wG.out.size hb0.size) (fun b e=>by omega)))
    have akg:=ae af9
    clear hbx0 akf hrow hbt hb0 af9 akd
    go_step
    go_wp2
    refine bodyPost_ret (v:=.tuple #[.agg #[.string name,.string src,.string part,.int .i64 fuel,.slice Ap np cp,.slice Bb body.length db],.int .i64 n5,.int .i64 d5,.bool q5,.bool true]) (by simp[results,Tryz.results4,go_sem,r0,r1,r2,r3,r4,r5]) rfl ⟨name,src,part,fuel,Ap,np,cp,Bb,body.length,db,n5,d5,_,true,rfl,HlW.out,fun _=>⟨⟨name,src,part,fuel,params,body⟩,⟨uU,oks,okp,okf,Ap,np,cp,Bb,body.length,db,rfl,?_,?_⟩,?_⟩⟩
    ·have h:=Hp.out.below HlW.out
     exact h.conv (Kept.refl _ _) (fun a ha h0 _=>h.lt h0 a ha) (fun _ _ _ h=>h)
    ·exact aP.turn (fun k hk _=>Nat.lt_of_lt_of_le hk HkW.out.size) HkW.out (Nat.le_refl _) Hbs.out
    ·rw[Hp.out.len];exact akg.out
end Go.Proofs.YtjjfkhbajidmdaaGreatDoor
