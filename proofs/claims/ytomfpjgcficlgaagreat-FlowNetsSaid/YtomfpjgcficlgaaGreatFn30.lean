/- Parts of this proof, one behind the other: FloN. -/
import Derived.Test.YtomfpjgcficlgaaGreatFn29
import Derived.Deep.RegionLaw
import Derived.Deep.DeepCutAuto
set_option maxRecDepth 1000000
set_option maxHeartbeats 40000000
namespace Go.Proofs.YtomfpjgcficlgaaGreat
open Go.RowKit Go.Afx Go.Maps
theorem tyStm:ElemTy Tryz.prog 25 55 2 40 (.agg #[.string ByteArray.empty,.slice none 0 0]):=⟨Tryz.underlying25,by kernel_rfl,rfl,by decide⟩
theorem tyPrc:ElemTy Tryz.prog 27 46 6 104 (.agg #[.string ByteArray.empty,.string ByteArray.empty,.string ByteArray.empty,.int .i64 0,.slice none 0 0,.slice none 0 0]):=⟨Tryz.underlying27,by kernel_rfl,rfl,by decide⟩
theorem catCells {w:World} {g:Nat} {T:TypeId} {A1 A:Option Addr} {n1 c1 n c:Nat} (h:IsBlk w g T (catB A1 n1 c1 A n c)) :
  w.cell? ⟨g,0,none⟩=some (.slice none 0 0)∧w.cell? ⟨g,1,none⟩=some (.slice A1 n1 c1)∧w.cell? ⟨g,2,none⟩=some (.slice none 0 0)∧w.cell? ⟨g,3,none⟩=some (.slice none 0 0)∧w.cell? ⟨g,4,none⟩=some (.slice A n c)∧g<w.heap.size :=
 ⟨h.cell 0,h.cell 1,h.cell 2,h.cell 3,h.cell 4,h.lt⟩
theorem noCat {ss:List ByteArray} {l:List Nd} {w w':World} {A1 A:Option Addr} {n1 c1 n c:Nat} {e:Ending} (he:e=.returned (.tuple #[catV A1 n1 c1 A n c,.bool false])) (hb:Below w.heap.size w w') (hf:¬ Fits ss l):CatRes ss l w e w' :=
 ⟨hb,A1,n1,c1,A,n,c,false,he,(fun h=>by cases h),fun _=>hf⟩
theorem sizeCat:(Tryz.prog.info? 29).map (·.size)=some 5:=by kernel_rfl
theorem ret_cat2 {fn:Func} {p u:Tmp} {tmps:Array Value} {w:World} {g:Nat} {t:TypeId} {A1 A:Option Addr} {n1 c1 n c:Nat} {v:Value} (h:fn.results=#[.cell p 29,.tmp u]) (hp:tmps.getD p undef=.pointer (some ⟨g,0,none⟩)) (hk:IsBlk w g t (catB A1 n1 c1 A n c)) (hv:tmps.getD u undef=v):(results fn tmps).run Tryz.prog w=.ok (.tuple #[catV A1 n1 c1 A n c,v]) w:=by
 rw[results_cell_tmp h,hp,hv]
 have h2:=run_loadVar_row (P:=Tryz.prog) w g t 29 (catB A1 n1 c1 A n c) (0,0) _ hk Tryz.underlying29 rfl sizeCat
 simp[asAddr,h2]
 rfl
theorem stored5 {w:World} {g:Nat} {T:TypeId} {B1 B A1 A:Option Addr} {m1 d1 m d n1 c1 n c:Nat} (h:IsBlk w g T (catB B1 m1 d1 B m d)) :
  IsBlk (((((w.setCell ⟨g,0,none⟩ (.slice none 0 0)).setCell ⟨g,1,none⟩ (.slice A1 n1 c1)).setCell ⟨g,2,none⟩ (.slice none 0 0)).setCell ⟨g,3,none⟩ (.slice none 0 0)).setCell ⟨g,4,none⟩ (.slice A n c)) g T (catB A1 n1 c1 A n c):=by
 have h5:=((((h.stored 0 (.slice none 0 0)).stored 1 (.slice A1 n1 c1)).stored 2 (.slice none 0 0)).stored 3 (.slice none 0 0)).stored 4 (.slice A n c)
 simpa [catB] using h5
theorem below5 {B:Nat} {a w:World} (h:Below B a w) {g:Nat} (hg:B≤g) (v0 v1 v2 v3 v4:Value):Below B a (((((w.setCell ⟨g,0,none⟩ v0).setCell ⟨g,1,none⟩ v1).setCell ⟨g,2,none⟩ v2).setCell ⟨g,3,none⟩ v3).setCell ⟨g,4,none⟩ v4) :=
 ((((h.setCell (p:=⟨g,0,none⟩) hg v0).setCell (p:=⟨g,1,none⟩) hg v1).setCell (p:=⟨g,2,none⟩) hg v2).setCell (p:=⟨g,3,none⟩) hg v3).setCell (p:=⟨g,4,none⟩) hg v4
def prB (name src:ByteArray) (fu:Int) (A:Option Addr) (n c:Nat):Array Value:=#[.string name,.string src,.string ⟨#[]⟩,.int .i64 fu,.slice none 0 0,.slice A n c]
theorem prCells {w:World} {g:Nat} {T:TypeId} {name src:ByteArray} {fu:Int} {A:Option Addr} {n c:Nat} (h:IsBlk w g T (prB name src fu A n c)) :
  w.cell? ⟨g,0,none⟩=some (.string name)∧w.cell? ⟨g,1,none⟩=some (.string src)∧w.cell? ⟨g,2,none⟩=some (.string ⟨#[]⟩)∧w.cell? ⟨g,3,none⟩=some (.int .i64 fu)∧w.cell? ⟨g,4,none⟩=some (.slice none 0 0)∧w.cell? ⟨g,5,none⟩=some (.slice A n c)∧g<w.heap.size :=
 ⟨h.cell 0,h.cell 1,h.cell 2,h.cell 3,h.cell 4,h.cell 5,h.lt⟩
theorem stored_pr {w:World} {g:Nat} {T:TypeId} {name src:ByteArray} {fu:Int} {A A2:Option Addr} {n c n2 c2:Nat} (h:IsBlk w g T (prB name src fu A n c)):IsBlk (w.setCell ⟨g,5,none⟩ (.slice A2 n2 c2)) g T (prB name src fu A2 n2 c2):=h.stored 5 _
theorem stored_cat {w:World} {g:Nat} {T:TypeId} {A1 A A2:Option Addr} {n1 c1 n c n2 c2:Nat} (h:IsBlk w g T (catB A1 n1 c1 A n c)):IsBlk (w.setCell ⟨g,4,none⟩ (.slice A2 n2 c2)) g T (catB A1 n1 c1 A2 n2 c2):=h.stored 4 _
theorem ls_map {α β:Type} {F:Nat→Prop} {w:World} {sz:Nat} {P:List Value→β→Prop} {A:Option Addr} {n c:Nat} {xs:List α} (f:α→β) (h:LsAt F w sz (fun r x=>P r (f x)) A n c xs):LsAt F w sz P A n c (xs.map f):=by
 obtain⟨rows,h1,h2,h3,h4⟩:=h
 refine⟨rows,h1,h2,by simp[h3],fun k r y hr hy=>?_⟩
 rw[List.getElem?_map] at hy
 obtain⟨x,hx,rfl⟩:=Option.map_eq_some_iff.1 hy
 exact h4 k r x hr hx
theorem emits_em (s:ByteArray):emitsS 2 (emSt s)=[s]:=by simp[emitsS,emSt,St.op,St.src,St.body,St.els]
theorem emits_pr (x:Nd):emitsP 2 (prOf x)=if rightB 2 (prOf x) then x.ems else []:=by
 unfold emitsP
 have e:(prOf x).body.flatMap (emitsS 2)=x.ems:=by
  show (x.ems.map emSt).flatMap (emitsS 2)=x.ems
  rw[List.flatMap_map]
  simp[emits_em]
 rw[e]
theorem NodsAt.oks {F:Nat→Prop} {w:World} {A:Option Addr} {n c:Nat} {l:List Nd} (h:NodsAt F w A n c l):∀ x∈l,okS x.name∧okS x.src∧∀ s∈x.ems,okS s:=by
 intro x hx
 obtain⟨k,hk⟩:=List.mem_iff_getElem?.1 hx
 have hlt:=(List.getElem?_eq_some_iff.1 hk).1
 obtain⟨b,o,y,A2,m2,c2,_,_,hy,h1,h2,_,_,_,_,hls⟩:=NodsAt.get h (k:=k) (by have:=LsAt.len h;omega)
 rw[hk] at hy
 cases hy
 refine⟨h1,h2,fun s hs=>?_⟩
 obtain⟨k2,hk2⟩:=List.mem_iff_getElem?.1 hs
 have hlt2:=(List.getElem?_eq_some_iff.1 hk2).1
 obtain⟨_,_,z,_,_,hz,oz,_⟩:=strAt hls (k:=k2) (by have:=hls.len;omega)
 rw[hk2] at hz
 cases hz
 exact oz
theorem catalog_any (F:Nat→Prop) (A1 A:Option Addr) (n1 c1 n c:Nat) (ss:List ByteArray) (l:List Nd) (w:World) (hl:NodsAt F w A n c l) (hs:LsAt F w 1 SRow A1 n1 c1 ss) :
  Calls Tryz.prog 5 #[.slice A n c,.slice A1 n1 c1] w (CatRes ss l w):=by
 have hnl:=LsAt.n_le hl
 have hns:=hs.n_le
 have HL:=Lhd (fun W (hW:Below w.heap.size w W)=>NodsAt.below hl hW)
 have HS:=Lhd (fun W (hW:Below w.heap.size w W)=>hs.below hW)
 have Hll:=Lhd (LsAt.len hl)
 have Hoks:=Lhd (NodsAt.oks hl)
 have Hsl:=Lhd hs.len
 clear hl hs
 have hb2:Below w.heap.size w ((w.alloc (.cells (catB none 0 0 none 0 0) 29)).alloc (.cells (catB none 0 0 none 0 0) 29)):=((Below.refl _ _).alloc (Nat.le_refl _) _).alloc (by simp) _
 have hk4:IsBlk ((w.alloc (.cells (catB none 0 0 none 0 0) 29)).alloc (.cells (catB none 0 0 none 0 0) 29)) w.heap.size 29 (catB none 0 0 none 0 0):=(IsBlk.laid _ _ _).alloc _
 have hk6:IsBlk ((w.alloc (.cells (catB none 0 0 none 0 0) 29)).alloc (.cells (catB none 0 0 none 0 0) 29)) (w.heap.size+1) 29 (catB none 0 0 none 0 0):=laid_at (by simp) _ _
 have Hb2:=Lhd hb2
 have Hk4:=Lhd hk4
 have Hk6:=Lhd hk6
 clear hb2 hk4 hk6
 by_cases h1:10<n
 ·have d1:decide ((10:Int)<(n:Int))=true:=by simp;omega
  go_enter Tryz.func5,Tryz.ntmps5
  go_wp2
  refine bodyPost_ret (ret_cat2 rfl rfl Hk4.out rfl) rfl ?_
  exact noCat rfl Hb2.out (fun f=>by have:=f.nodes;have:=Hll.out;omega)
 have d1:decide ((10:Int)<(n:Int))=false:=by simp;omega
 by_cases h2:10<n1
 ·have d2:decide ((10:Int)<(n1:Int))=true:=by simp;omega
  go_enter Tryz.func5,Tryz.ntmps5
  go_wp2
  refine bodyPost_ret (ret_cat2 rfl rfl Hk4.out rfl) rfl ?_
  exact noCat rfl Hb2.out (fun f=>by have:=f.streams;have:=Hsl.out;omega)
 have d2:decide ((10:Int)<(n1:Int))=false:=by simp;omega
 go_enter Tryz.func5,Tryz.ntmps5
 go_wp2
 -- the streams
 go_loopw [7] (fun i wr=>∃ (k:Nat) (A1:Option Addr) (c1:Nat),k≤n1∧i=.int .i64 k∧Hid (IsBlk wr w.heap.size 29 (catB none 0 0 none 0 0)∧IsBlk wr (w.heap.size+1) 29 (catB A1 k c1 none 0 0)∧StrsAt (w.heap.size+2) wr A1 k c1 (ss.take k))∧Below w.heap.size w wr∧w.heap.size+2≤wr.heap.size) (fun i _=>n1-(intOf i).toNat)
 case atStart=>exact⟨0,none,0,Nat.zero_le _,rfl,Lhd ⟨Hk4.out,Hk6.out,FillAt.nil_ _ _ _ _ _⟩,Hb2.out,by simp⟩
 case round =>
  obtain⟨k,A2,c2,hk,rfl,HX,hb,hsz⟩:=hrel
  obtain⟨z0,z1,z2,z3,z4,zl⟩:=catCells HX.out.2.1
  have hfz4:=HX.out.1.frozen
  have hfz6:=HX.out.2.1.frozen
  obtain⟨y0,y1,y2,y3,y4,yl⟩:=catCells HX.out.1
  by_cases hlt:k<n1
  ·obtain⟨b,o,s,rfl,hbl,hx,oks,hc0⟩:=strAt (HS.out wr hb) hlt
   have Hx:=Lhd hx
   clear hx
   by_cases h100:100<s.size
   ·have d3:decide ((100:Int)<(s.size:Int))=true:=by simp;omega
    go_wp2
    refine bodyPost_ret (ret_cat2 rfl rfl (stored5 HX.out.1) rfl) rfl ?_
    exact noCat rfl (below5 hb (Nat.le_refl _) _ _ _ _ _) (fun f=>by have:=f.names s (List.mem_of_getElem? Hx.out);omega)
   ·have d3:decide ((100:Int)<(s.size:Int))=false:=by simp;omega
    have hal:Below wr.heap.size wr ((wr.alloc (.cells #[.string s,.slice none 0 0] 55)).drew):=((Below.refl _ _).alloc (Nat.le_refl _) _).drew
    have haddr:=FillAt.addr HX.out.2.2
    obtain⟨rows,ho,r2,r3,r4,r5⟩:=HX.out.2.2
    have hownA:((wr.alloc (.cells #[.string s,.slice none 0 0] 55)).drew).ownsRow (w.heap.size+2) 55 2 (.slice A2 k c2) k rows.flatten:=own_below ho hal
    have hnewA:RowsAt ((wr.alloc (.cells #[.string s,.slice none 0 0] 55)).drew) 2 (some ⟨wr.heap.size,0,none⟩) 1 1 [[.string s,.slice none 0 0]]:=RowsAt.below (w:=wr.alloc (.cells #[.string s,.slice none 0 0] 55)) (RowsAt.lit' _ _ 1 (by rfl) rfl (by simp) rfl (by unfold maxLen;omega)) (Below.refl _ _).drew
    have hm1:k+1≤maxLen:=by unfold maxLen;omega
    have hm2:(k+1)*40≤140737488355328:=by omega
    have hm3:w.heap.size+2≤((wr.alloc (.cells #[.string s,.slice none 0 0] 55)).drew).heap.size:=by simp;omega
    have Hc3:=Lhd (fun (w3:World) (hb:But (fun k=>A2.map (·.block)=some k) ((wr.alloc (.cells #[.string s,.slice none 0 0] 55)).drew) w3)=>(HX.out.2.1.as_was (hal.block _ zl)).as_was (hb.block _ (by simp;omega) (fun e=>by have:=(haddr _ e).1;omega)))
    have Hc4:=Lhd (fun (w3:World) (hb:But (fun k=>A2.map (·.block)=some k) ((wr.alloc (.cells #[.string s,.slice none 0 0] 55)).drew) w3)=>(HX.out.1.as_was (hal.block _ yl)).as_was (hb.block _ (by simp;omega) (fun e=>by have:=(haddr _ e).1;omega)))
    have Hrow:=Lhd (And.intro r2 (And.intro r3 (And.intro r4 r5)))
    have Hal:=Lhd hal
    have Haddr:=Lhd haddr
    have Htk:=Lhd (take_succ_of' Hx.out)
    clear r2 r3 r4 r5 ho hal haddr
    go_wp2
    go_region_law (refine step_app (base:=w.heap.size+2) (xs:=rows) (news:=[[.string s,.slice none 0 0]]) rfl rfl tyStm rfl hownA rfl hnewA (by simp) (by simp[Value.oneCell']) hm1 hm2 hm3 ?_;intro A3 c3 w3 hown3 hbut3 hf3;have hfz3:=(Hc3.out w3 hbut3).frozen;have hk3:=(catCells (Hc3.out w3 hbut3)).2.1)
    all_goals
     have hsz3:=hbut3.size
     have HK3:=Lhd ((Hc3.out w3 hbut3).stored 1 (.slice A3 (k+1) c3))
     have HS3:Hid (StrsAt (w.heap.size+2) w3 A3 (k+1) c3 (ss.take k++[s])):=Lhd (FillAt.push strsStays Hrow.out.1 Hrow.out.2.1 Hrow.out.2.2.1 Hrow.out.2.2.2 hsz (fun q hq=>(Haddr.out q hq).2) Hal.out ⟨⟨none,0,0,rfl⟩,oks⟩ rfl hown3 hbut3 hf3)
     have hB3:=hb.trans ((Hal.out.mono hb.size).trans (hbut3.below' (by simp;omega) (fun q hq=>by have:=(Haddr.out q hq).1;omega)))
     have HK4:=Lhd (Hc4.out w3 hbut3)
     clear hown3 hbut3 hf3 hfz3 hk3 hownA hnewA
     go_wp2
     go_roundw
     case rel =>
      refine⟨k+1,A3,c3,by omega,by go_num,Lhd ⟨?_,?_,?_⟩,?_,?_⟩
      ·exact HK4.out.elsewhere (p:=⟨w.heap.size+1,1,none⟩) (by simp) _
      ·exact HK3.out
      ·rw[Htk.out]
       exact FillAt.but strsStays HS3.out ((But.refl (fun q=>q=w.heap.size+1) w3).setCell (p:=⟨w.heap.size+1,1,none⟩) (.inl rfl) _) (fun q hq=>by subst hq;omega)
      ·exact hB3.setCell (p:=⟨w.heap.size+1,1,none⟩) (by simp) _
      ·have:=hB3.size;simp[World.setCell] at hsz3 ⊢;omega
     case measure=>simp[intOf];omega
  ·obtain rfl:k=n1:=by omega
   have HX2:Hid (StrsAt (w.heap.size+2) wr A2 k c2 ss):=by have h:=HX.out.2.2;rw[List.take_of_length_le (by rw[Hsl.out];omega)] at h;exact Lhd h
   obtain⟨w1,Hw1⟩:∃ w1,Hid (w1=wr):=⟨_,rfl⟩
   have Hss:Hid (LsAt (fun q=>w.heap.size+2≤q∧q<w1.heap.size) w1 2 NmRow A2 k c2 ss):=by rw[Hw1.out];exact Lhd (FillAt.ls strsStays HX2.out)
   have hw1:Below w.heap.size w w1:=by rw[Hw1.out];exact hb
   have hw2:w.heap.size+2≤w1.heap.size:=by rw[Hw1.out];exact hsz
   have HX1:=Lhd (And.intro HX.out.1 HX.out.2.1)
   clear HX2 z0 z1 z2 z3 z4 zl hfz4 hfz6 y0 y1 y2 y3 y4 yl HX
   have e1:=Hw1.out
   clear Hw1
   subst e1
   go_wp2
   -- the procedures
   go_loopw [8] (fun i wr=>∃ (j:Nat) (A5:Option Addr) (c5:Nat),j≤n∧i=.int .i64 j∧Hid (IsBlk wr w.heap.size 29 (catB none 0 0 none 0 0)∧IsBlk wr (w.heap.size+1) 29 (catB A2 k c2 A5 j c5)∧PrsAt w1.heap.size wr A5 j c5 (l.take j)∧Kept (fun q=>w.heap.size+2≤q∧q<w1.heap.size) w1 wr∧∀ x∈l.take j,x.ems.length≤8)∧Below w.heap.size w wr∧w1.heap.size≤wr.heap.size) (fun i _=>n-(intOf i).toNat)
   case atStart=>exact⟨0,none,0,Nat.zero_le _,rfl,Lhd ⟨HX1.out.1,HX1.out.2,FillAt.nil_ _ _ _ _ _,Kept.refl _ _,by simp⟩,hw1,Nat.le_refl _⟩
   case round =>
    rename World=>w7
    obtain⟨j,A5,c5,hj,rfl,HX,hb,hsz⟩:=hrel
    obtain⟨z0,z1,z2,z3,z4,zl⟩:=catCells HX.out.2.1
    have hfz4:=HX.out.1.frozen
    have hfz6:=HX.out.2.1.frozen
    obtain⟨y0,y1,y2,y3,y4,yl⟩:=catCells HX.out.1
    by_cases hlt:j<n
    ·obtain⟨bN,oN,x,Ae,me,ce,rfl,hbl,hx,okn,oks,x0,x1,x2,x3,hls⟩:=NodsAt.get (HL.out w7 hb) hlt
     have Hx:=Lhd hx
     have Hls:=Lhd hls
     have hme:=hls.n_le
     clear hx hls
     have fin:∀ (W:World),W=(((((w7.setCell ⟨w.heap.size,0,none⟩ (.slice none 0 0)).setCell ⟨w.heap.size,1,none⟩ (.slice A2 k c2)).setCell ⟨w.heap.size,2,none⟩ (.slice none 0 0)).setCell ⟨w.heap.size,3,none⟩ (.slice none 0 0)).setCell ⟨w.heap.size,4,none⟩ (.slice A5 j c5))→IsBlk W w.heap.size 29 (catB A2 k c2 A5 j c5)∧Below w.heap.size w W:=fun W e=>by subst e;exact⟨stored5 HX.out.1,below5 hb (Nat.le_refl _) _ _ _ _ _⟩
     have Fin:=Lhd fin
     clear fin
     by_cases h8:8<me
     ·have d8:decide ((8:Int)<(me:Int))=true:=by simp;omega
      go_wp2
      refine bodyPost_ret (ret_cat2 rfl rfl (Fin.out _ rfl).1 rfl) rfl ?_
      exact noCat rfl (Fin.out _ rfl).2 (fun f=>by have h1:=(f.each x (List.mem_of_getElem? Hx.out)).1;have h2:=Hls.out.len;omega)
     have d8:decide ((8:Int)<(me:Int))=false:=by simp;omega
     by_cases hn1:100<x.name.size
     ·have dn:decide ((100:Int)<(x.name.size:Int))=true:=by simp;omega
      go_wp2
      refine bodyPost_ret (ret_cat2 rfl rfl (Fin.out _ rfl).1 rfl) rfl ?_
      exact noCat rfl (Fin.out _ rfl).2 (fun f=>by have h1:=(f.each x (List.mem_of_getElem? Hx.out)).2.1;omega)
     have dn:decide ((100:Int)<(x.name.size:Int))=false:=by simp;omega
     by_cases hs1:100<x.src.size
     ·have ds:decide ((100:Int)<(x.src.size:Int))=true:=by simp;omega
      go_wp2
      refine bodyPost_ret (ret_cat2 rfl rfl (Fin.out _ rfl).1 rfl) rfl ?_
      exact noCat rfl (Fin.out _ rfl).2 (fun f=>by have h1:=(f.each x (List.mem_of_getElem? Hx.out)).2.2.1;omega)
     have ds:decide ((100:Int)<(x.src.size:Int))=false:=by simp;omega
     clear hn1 hs1
     have HXw:=Lhd (fun W (hW:Below w7.heap.size w7 W)=>And.intro (HX.out.1.as_was (hW.block _ yl)) (HX.out.2.1.as_was (hW.block _ zl)))
     have hb9:Below w7.heap.size w7 (w7.alloc (.cells (prB x.name x.src 1 none 0 0) 46)).drew:=((Below.refl _ _).alloc (Nat.le_refl _) _).drew
     have hb90:Below w7.heap.size w7 (w7.alloc (.cells (prB x.name x.src 0 none 0 0) 46)).drew:=((Below.refl _ _).alloc (Nat.le_refl _) _).drew
     have hk9:∀ f,IsBlk (w7.alloc (.cells (prB x.name x.src f none 0 0) 46)).drew w7.heap.size 46 (prB x.name x.src f none 0 0):=fun f=>IsBlk.laid _ _ _
     have Hb9:=Lhd hb9
     have Hb90:=Lhd hb90
     have Hk9:=Lhd hk9
     clear hb9 hb90 hk9
     go_wp2
     go_region
     go_upto_if 91 with (fail)
     go_cut [92] (fun _ wc=>∃ fu:Int,Hid (fu=(prOf x).fuel∧okI fu)∧Below w7.heap.size w7 wc∧wc.heap.size=w7.heap.size+1∧Hid (IsBlk wc w7.heap.size 46 (prB x.name x.src fu none 0 0)))
     case first =>
      go_wp2
      ·go_meet
       have ho:x.odd=true:=by assumption
       exact⟨0,Lhd ⟨by simp[prOf,ho],by unfold okI;omega⟩,Hb90.out,by simp,Lhd (Hk9.out 0)⟩
      ·go_meet
       have ho:x.odd=false:=by assumption
       exact⟨1,Lhd ⟨by simp[prOf,ho],by unfold okI;omega⟩,Hb9.out,by simp,Lhd (Hk9.out 1)⟩
     case rest =>
     obtain⟨fu,Hfu,h9,h9s,h9k⟩:=hcut
     go_wp2
     have Hx0:=Lhd (And.intro x0 (And.intro x1 (And.intro x2 x3)))
     clear x0 x1 x2 x3 z0 z1 z2 z3 z4 hfz4 hfz6 y0 y1 y2 y3 y4
     go_loopw [10] (fun i wr=>∃ (m:Nat) (Ab:Option Addr) (cb:Nat),m≤me∧i=.int .i64 m∧Hid (IsBlk wr w7.heap.size 46 (prB x.name x.src fu Ab m cb)∧BodAt (w7.heap.size+1) wr Ab m cb (x.ems.take m))∧Below w7.heap.size w7 wr∧w7.heap.size+1≤wr.heap.size) (fun i _=>me-(intOf i).toNat)
     case atStart=>exact⟨0,none,0,Nat.zero_le _,rfl,Lhd ⟨h9k.out,FillAt.nil_ _ _ _ _ _⟩,h9,by omega⟩
     case round =>
      obtain⟨m,Ab,cb,hm,rfl,HY,hb3,hsz3⟩:=hrel
      have hbw:=hb.trans (hb3.mono hb.size)
      obtain⟨z0,z1,z2,z3,z4,zl2⟩:=catCells (HXw.out wr hb3).2
      have hfz6:=(HXw.out wr hb3).2.frozen
      obtain⟨y0,y1,y2,y3,y4,yl2⟩:=catCells (HXw.out wr hb3).1
      have hfz4:=(HXw.out wr hb3).1.frozen
      obtain⟨p0,p1,p2,p3,p4,p5,pl⟩:=prCells HY.out.1
      have hfz9:=HY.out.1.frozen
      have x2:=(hb3.cell (p:=⟨bN,oN+j*4+2,none⟩) hbl).trans Hx0.out.2.2.1
      have hbl3:bN<wr.heap.size:=by omega
      by_cases hlm:m<me
      ·obtain⟨bs,os,s,rfl,hbs,hxs,oks2,hc0⟩:=strAt (Hls.out.below hb3) hlm
       have Hxs:=Lhd hxs
       clear hxs
       by_cases h100:100<s.size
       ·have d3:decide ((100:Int)<(s.size:Int))=true:=by simp;omega
        go_wp2
        refine bodyPost_ret (ret_cat2 rfl rfl (stored5 (HXw.out wr hb3).1) rfl) rfl ?_
        exact noCat rfl (below5 hbw (Nat.le_refl _) _ _ _ _ _) (fun f=>by have h1:=(f.each x (List.mem_of_getElem? Hx.out)).2.2.2 s (List.mem_of_getElem? Hxs.out);omega)
       ·have d3:decide ((100:Int)<(s.size:Int))=false:=by simp;omega
        have hal:Below wr.heap.size wr (((wr.alloc (.cells #[.int .i64 1,.int .i64 1,.string ⟨#[]⟩,.string ⟨#[]⟩,.string ⟨#[]⟩,.slice none 0 0] 58)).alloc (.cells #[.int .i64 8,.string ⟨#[]⟩,.string s,.int .i64 0,.slice none 0 0,.slice (some ⟨wr.heap.size,0,none⟩) 1 1,.slice none 0 0,.slice none 0 0] 60)).drew):=(((Below.refl _ _).alloc (Nat.le_refl _) _).alloc (by simp) _).drew
        have haddr:=FillAt.addr HY.out.2
        obtain⟨rows,ho,r2,r3,r4,r5⟩:=HY.out.2
        have hownA:(((wr.alloc (.cells #[.int .i64 1,.int .i64 1,.string ⟨#[]⟩,.string ⟨#[]⟩,.string ⟨#[]⟩,.slice none 0 0] 58)).alloc (.cells #[.int .i64 8,.string ⟨#[]⟩,.string s,.int .i64 0,.slice none 0 0,.slice (some ⟨wr.heap.size,0,none⟩) 1 1,.slice none 0 0,.slice none 0 0] 60)).drew).ownsRow (w7.heap.size+1) 60 8 (.slice Ab m cb) m rows.flatten:=own_below ho hal
        have hnewA:RowsAt (((wr.alloc (.cells #[.int .i64 1,.int .i64 1,.string ⟨#[]⟩,.string ⟨#[]⟩,.string ⟨#[]⟩,.slice none 0 0] 58)).alloc (.cells #[.int .i64 8,.string ⟨#[]⟩,.string s,.int .i64 0,.slice none 0 0,.slice (some ⟨wr.heap.size,0,none⟩) 1 1,.slice none 0 0,.slice none 0 0] 60)).drew) 8 (some ⟨wr.heap.size+1,0,none⟩) 1 1 [[.int .i64 8,.string ⟨#[]⟩,.string s,.int .i64 0,.slice none 0 0,.slice (some ⟨wr.heap.size,0,none⟩) 1 1,.slice none 0 0,.slice none 0 0]]:=RowsAt.below (RowsAt.lit' (w:=wr.alloc (.cells #[.int .i64 1,.int .i64 1,.string ⟨#[]⟩,.string ⟨#[]⟩,.string ⟨#[]⟩,.slice none 0 0] 58)) (T:=60) _ _ 1 (by simp) rfl (by simp) rfl (by unfold maxLen;omega)) (Below.refl _ _).drew
        have hst:StAt (fun q=>wr.heap.size≤q∧q<(((wr.alloc (.cells #[.int .i64 1,.int .i64 1,.string ⟨#[]⟩,.string ⟨#[]⟩,.string ⟨#[]⟩,.slice none 0 0] 58)).alloc (.cells #[.int .i64 8,.string ⟨#[]⟩,.string s,.int .i64 0,.slice none 0 0,.slice (some ⟨wr.heap.size,0,none⟩) 1 1,.slice none 0 0,.slice none 0 0] 60)).drew).heap.size) 2 (((wr.alloc (.cells #[.int .i64 1,.int .i64 1,.string ⟨#[]⟩,.string ⟨#[]⟩,.string ⟨#[]⟩,.slice none 0 0] 58)).alloc (.cells #[.int .i64 8,.string ⟨#[]⟩,.string s,.int .i64 0,.slice none 0 0,.slice (some ⟨wr.heap.size,0,none⟩) 1 1,.slice none 0 0,.slice none 0 0] 60)).drew) [.int .i64 8,.string ⟨#[]⟩,.string s,.int .i64 0,.slice none 0 0,.slice (some ⟨wr.heap.size,0,none⟩) 1 1,.slice none 0 0,.slice none 0 0] (emSt s):=StAt.conv (fun q hq=>⟨hq.1,by have:=hq.2;simp;omega⟩) (Kept.of_below ((((Below.refl _ _).alloc (Nat.le_refl _) _).drew:Below (wr.alloc (.cells #[.int .i64 1,.int .i64 1,.string ⟨#[]⟩,.string ⟨#[]⟩,.string ⟨#[]⟩,.slice none 0 0] 58)).heap.size (wr.alloc (.cells #[.int .i64 1,.int .i64 1,.string ⟨#[]⟩,.string ⟨#[]⟩,.string ⟨#[]⟩,.slice none 0 0] 58)) (((wr.alloc (.cells #[.int .i64 1,.int .i64 1,.string ⟨#[]⟩,.string ⟨#[]⟩,.string ⟨#[]⟩,.slice none 0 0] 58)).alloc (.cells #[.int .i64 8,.string ⟨#[]⟩,.string s,.int .i64 0,.slice none 0 0,.slice (some ⟨wr.heap.size,0,none⟩) 1 1,.slice none 0 0,.slice none 0 0] 60)).drew)))) 2 (Nat.le_refl _) (emRow (w:=wr) rfl oks2 58)
        have hm1:m+1≤maxLen:=by unfold maxLen;omega
        have hm2:(m+1)*144≤140737488355328:=by omega
        have hm3:w7.heap.size+1≤(((wr.alloc (.cells #[.int .i64 1,.int .i64 1,.string ⟨#[]⟩,.string ⟨#[]⟩,.string ⟨#[]⟩,.slice none 0 0] 58)).alloc (.cells #[.int .i64 8,.string ⟨#[]⟩,.string s,.int .i64 0,.slice none 0 0,.slice (some ⟨wr.heap.size,0,none⟩) 1 1,.slice none 0 0,.slice none 0 0] 60)).drew).heap.size:=by simp;omega
        have Hc9:=Lhd (fun (w3:World) (hb:But (fun k=>Ab.map (·.block)=some k) (((wr.alloc (.cells #[.int .i64 1,.int .i64 1,.string ⟨#[]⟩,.string ⟨#[]⟩,.string ⟨#[]⟩,.slice none 0 0] 58)).alloc (.cells #[.int .i64 8,.string ⟨#[]⟩,.string s,.int .i64 0,.slice none 0 0,.slice (some ⟨wr.heap.size,0,none⟩) 1 1,.slice none 0 0,.slice none 0 0] 60)).drew) w3)=>(HY.out.1.as_was (hal.block _ pl)).as_was (hb.block _ (by simp;omega) (fun e=>by have:=(haddr _ e).1;omega)))
        have Hrow:=Lhd (And.intro r2 (And.intro r3 (And.intro r4 r5)))
        have Hal:=Lhd hal
        have Haddr:=Lhd haddr
        have Hst:=Lhd hst
        have Htk:=Lhd (take_succ_of' Hxs.out)
        have HB3:=Lhd (fun (w3:World) (hb:But (fun k=>Ab.map (·.block)=some k) (((wr.alloc (.cells #[.int .i64 1,.int .i64 1,.string ⟨#[]⟩,.string ⟨#[]⟩,.string ⟨#[]⟩,.slice none 0 0] 58)).alloc (.cells #[.int .i64 8,.string ⟨#[]⟩,.string s,.int .i64 0,.slice none 0 0,.slice (some ⟨wr.heap.size,0,none⟩) 1 1,.slice none 0 0,.slice none 0 0] 60)).drew) w3)=>hb3.trans ((hal.mono hb3.size).trans (hb.below' (by simp;omega) (fun q hq=>by have:=(haddr q hq).1;omega))))
        have HXw2:=Lhd (fun (w3:World) (hb:But (fun k=>Ab.map (·.block)=some k) (((wr.alloc (.cells #[.int .i64 1,.int .i64 1,.string ⟨#[]⟩,.string ⟨#[]⟩,.string ⟨#[]⟩,.slice none 0 0] 58)).alloc (.cells #[.int .i64 8,.string ⟨#[]⟩,.string s,.int .i64 0,.slice none 0 0,.slice (some ⟨wr.heap.size,0,none⟩) 1 1,.slice none 0 0,.slice none 0 0] 60)).drew) w3)=>hb.size)
        clear r2 r3 r4 r5 ho hal haddr hst
        go_wp2
        go_region_law (refine step_app (base:=w7.heap.size+1) (xs:=rows) (news:=[[.int .i64 8,.string ⟨#[]⟩,.string s,.int .i64 0,.slice none 0 0,.slice (some ⟨wr.heap.size,0,none⟩) 1 1,.slice none 0 0,.slice none 0 0]]) rfl rfl tySt rfl hownA rfl hnewA (by simp) (by simp[Value.oneCell']) hm1 hm2 hm3 ?_;intro A3 c3 w3 hown3 hbut3 hf3;have hfz3:=(Hc9.out w3 hbut3).frozen;have hk3:=(prCells (Hc9.out w3 hbut3)).2.2.2.2.2.1)
        all_goals
         have HY3:=Lhd (And.intro (stored_pr (A2:=A3) (n2:=m+1) (c2:=c3) (Hc9.out w3 hbut3)) (FillAt.but bodStays (FillAt.push bodStays Hrow.out.1 Hrow.out.2.1 Hrow.out.2.2.1 Hrow.out.2.2.2 hsz3 (fun q hq=>(Haddr.out q hq).2) Hal.out Hst.out rfl hown3 hbut3 hf3) ((But.refl (fun q=>q=w7.heap.size) w3).setCell (p:=⟨w7.heap.size,5,none⟩) (.inl rfl) (.slice A3 (m+1) c3)) (fun q hq=>by subst hq;omega)))
         have hB4:=(HB3.out w3 hbut3).setCell (p:=⟨w7.heap.size,5,none⟩) (Nat.le_refl _) (.slice A3 (m+1) c3)
         have hs4:=HXw2.out w3 hbut3
         clear hown3 hbut3 hf3 hfz3 hk3 hownA hnewA
         go_wp2
         go_roundw
         case rel =>
          refine⟨m+1,A3,c3,by omega,by go_num,Lhd ⟨HY3.out.1,?_⟩,hB4,?_⟩
          ·rw[Htk.out];exact HY3.out.2
          ·simp[World.setCell] at hs4 ⊢;omega
         case measure=>simp[intOf];omega
      ·obtain rfl:m=me:=by omega
       have Hm:Hid (x.ems.length=m):=Lhd Hls.out.len
       have haddr:=FillAt.addr HX.out.2.2.1
       obtain⟨rows,ho,r2,r3,r4,r5⟩:=HX.out.2.2.1
       have hal:Below wr.heap.size wr (wr.alloc (.cells #[.string x.name,.string x.src,.string ⟨#[]⟩,.int .i64 fu,.slice none 0 0,.slice Ab m cb] 46)):=(Below.refl _ _).alloc (Nat.le_refl _) _
       have hal7:=hb3.alloc (by omega) (.cells #[.string x.name,.string x.src,.string ⟨#[]⟩,.int .i64 fu,.slice none 0 0,.slice Ab m cb] 46)
       have hown5:(wr.alloc (.cells #[.string x.name,.string x.src,.string ⟨#[]⟩,.int .i64 fu,.slice none 0 0,.slice Ab m cb] 46)).ownsRow w1.heap.size 46 6 (.slice A5 j c5) j rows.flatten:=own_below ho hal7
       have hbody:LsAt (fun q=>w7.heap.size≤q∧q<(wr.alloc (.cells #[.string x.name,.string x.src,.string ⟨#[]⟩,.int .i64 fu,.slice none 0 0,.slice Ab m cb] 46)).heap.size) (wr.alloc (.cells #[.string x.name,.string x.src,.string ⟨#[]⟩,.int .i64 fu,.slice none 0 0,.slice Ab m cb] 46)) 8 (StAt (fun q=>w7.heap.size≤q∧q<(wr.alloc (.cells #[.string x.name,.string x.src,.string ⟨#[]⟩,.int .i64 fu,.slice none 0 0,.slice Ab m cb] 46)).heap.size) 2 (wr.alloc (.cells #[.string x.name,.string x.src,.string ⟨#[]⟩,.int .i64 fu,.slice none 0 0,.slice Ab m cb] 46))) Ab m cb (x.ems.map emSt):=by
        have h:=FillAt.ls bodStays (show FillAt _ _ _ _ _ _ _ _ _ from HY.out.2)
        rw[List.take_of_length_le (by rw[Hm.out];exact Nat.le_refl _)] at h
        refine ls_map emSt (h.conv (Kept.of_below hal) (fun a _ _ ha=>⟨by have:=ha.1;omega,by have:=ha.2;simp;omega⟩) fun r s _ hs=>?_)
        exact StAt.conv (fun q hq=>⟨by have:=hq.1;omega,by have:=hq.2;simp;omega⟩) (Kept.of_below hal) 2 (Nat.le_refl _) hs
       have hrow:PrAt (fun q=>w7.heap.size≤q∧q<(wr.alloc (.cells #[.string x.name,.string x.src,.string ⟨#[]⟩,.int .i64 fu,.slice none 0 0,.slice Ab m cb] 46)).heap.size) 2 (wr.alloc (.cells #[.string x.name,.string x.src,.string ⟨#[]⟩,.int .i64 fu,.slice none 0 0,.slice Ab m cb] 46)) [.string x.name,.string x.src,.string ⟨#[]⟩,.int .i64 fu,.slice none 0 0,.slice Ab m cb] (prOf x) :=
        ⟨okn,oks,by show okS ⟨#[]⟩;unfold okS;decide,by rw[← Hfu.out.1];exact Hfu.out.2,none,0,0,Ab,m,cb,by rw[Hfu.out.1];rfl,LsAt.nil_ _ _ _ _,hbody⟩
       have Hc6:=Lhd (fun (w6:World) (hb:But (fun k=>A5.map (·.block)=some k) (wr.alloc (.cells #[.string x.name,.string x.src,.string ⟨#[]⟩,.int .i64 fu,.slice none 0 0,.slice Ab m cb] 46)) w6)=>And.intro
        (((HXw.out wr hb3).2.alloc (.cells #[.string x.name,.string x.src,.string ⟨#[]⟩,.int .i64 fu,.slice none 0 0,.slice Ab m cb] 46)).as_was (hb.block _ (by simp;omega) (fun e=>by have:=(haddr _ e).1;omega)))
        (((HXw.out wr hb3).1.alloc (.cells #[.string x.name,.string x.src,.string ⟨#[]⟩,.int .i64 fu,.slice none 0 0,.slice Ab m cb] 46)).as_was (hb.block _ (by simp;omega) (fun e=>by have:=(haddr _ e).1;omega))))
       have Hrow:=Lhd (And.intro r2 (And.intro r3 (And.intro r4 r5)))
       have Haddr:=Lhd haddr
       have Hpr:=Lhd hrow
       have Hal7:=Lhd hal7
       have Htk:=Lhd (take_succ_of' Hx.out)
       clear r2 r3 r4 r5 ho haddr hrow hbody hal7
       go_wp2_with (at_builtin;refine wpList_app rfl rfl tyPrc rfl hown5 rfl (RowsAt.lit _ [[.string x.name,.string x.src,.string ⟨#[]⟩,.int .i64 fu,.slice none 0 0,.slice Ab m cb]] 1 rfl (by simp) rfl (by unfold maxLen;omega)) (by simp) (by simp[Value.oneCell']) ?_ ?_ ?_ ?_;(unfold maxLen;omega);omega;(simp;omega);intro A6 c6 w6 hown6 hbut6 hf6;have hfz3:=(Hc6.out w6 hbut6).1.frozen;have hk3:=(catCells (Hc6.out w6 hbut6).1).2.2.2.2.1)
       have hs6:=hbut6.size
       have HB6:=hb.trans ((Hal7.out.mono hb.size).trans (hbut6.below' (by simp;omega) (fun q hq=>by have:=(Haddr.out q hq).1;omega)))
       have HP6:=Lhd (FillAt.but prsStays (FillAt.push prsStays Hrow.out.1 Hrow.out.2.1 Hrow.out.2.2.1 Hrow.out.2.2.2 hsz (fun q hq=>(Haddr.out q hq).2) Hal7.out Hpr.out rfl hown6 hbut6 hf6) ((But.refl (fun q=>q=w.heap.size+1) w6).setCell (p:=⟨w.heap.size+1,4,none⟩) (.inl rfl) (.slice A6 (j+1) c6)) (fun q hq=>by subst hq;omega))
       have HK6:Hid (Kept (fun q=>w.heap.size+2≤q∧q<w1.heap.size) w1 (w6.setCell ⟨w.heap.size+1,4,none⟩ (.slice A6 (j+1) c6))) :=
        Lhd (((HX.out.2.2.2.1.trans (Kept.of_below Hal7.out)).trans (Kept.of_but hbut6 fun q hq hs=>by have:=(Haddr.out q hs).1;have:=hq.2;omega)).trans (Kept.of_but ((But.refl (fun q=>q=w.heap.size+1) w6).setCell (p:=⟨w.heap.size+1,4,none⟩) (.inl rfl) (.slice A6 (j+1) c6)) fun q hq hs=>by have:=hq.1;have hs':q=w.heap.size+1:=hs;omega))
       have HC6:=Lhd (Hc6.out w6 hbut6)
       clear hown6 hbut6 hf6 hfz3 hk3 hown5
       go_roundw
       case rel =>
        refine⟨j+1,A6,c6,by omega,by go_num,Lhd ⟨HC6.out.2.elsewhere (p:=⟨w.heap.size+1,4,none⟩) (by simp) _,stored_cat HC6.out.1,?_,HK6.out,?_⟩,HB6.setCell (p:=⟨w.heap.size+1,4,none⟩) (by simp) _,?_⟩
        ·rw[Htk.out];exact HP6.out
        ·rw[Htk.out]
         intro y hy
         rcases List.mem_append.1 hy with hy|hy
         ·exact HX.out.2.2.2.2 y hy
         ·simp at hy;subst hy;rw[Hm.out];omega
        ·simp[World.setCell] at hs6 ⊢;omega
       case measure=>simp[intOf];omega
    ·obtain rfl:j=n:=by omega
     go_wp2
     refine bodyPost_ret (ret_cat2 rfl rfl (stored5 HX.out.1) rfl) rfl ?_
     have hbut:But (fun q=>q=w.heap.size) w7 (((((w7.setCell ⟨w.heap.size,0,none⟩ (.slice none 0 0)).setCell ⟨w.heap.size,1,none⟩ (.slice A2 k c2)).setCell ⟨w.heap.size,2,none⟩ (.slice none 0 0)).setCell ⟨w.heap.size,3,none⟩ (.slice none 0 0)).setCell ⟨w.heap.size,4,none⟩ (.slice A5 j c5)) :=
      (((((But.refl (fun q=>q=w.heap.size) w7).setCell (p:=⟨w.heap.size,0,none⟩) (.inl rfl) _).setCell (p:=⟨w.heap.size,1,none⟩) (.inl rfl) _).setCell (p:=⟨w.heap.size,2,none⟩) (.inl rfl) _).setCell (p:=⟨w.heap.size,3,none⟩) (.inl rfl) _).setCell (p:=⟨w.heap.size,4,none⟩) (.inl rfl) _
     have hlj:l.take j=l:=List.take_of_length_le (by rw[Hll.out];exact Nat.le_refl _)
     have hP:=HX.out.2.2.1
     have hE:=HX.out.2.2.2.2
     rw[hlj] at hP hE
     refine⟨below5 hb (Nat.le_refl _) _ _ _ _ _,A2,k,c2,A5,j,c5,true,rfl,fun _=>⟨⟨?_,?_,by omega,by omega,?_,?_⟩,by omega⟩,fun h=>by cases h⟩
     ·exact(Hss.out.conv ((HX.out.2.2.2.1).trans (Kept.of_but hbut fun q hq hs=>by have:=hq.1;have hs':q=w.heap.size:=hs;omega)) (fun a _ _ ha=>by have:=ha.2;have:=hbut.size;show a.block<_;omega) fun _ _ _ h=>h)
     ·have hls:=ls_map prOf (FillAt.ls prsStays (show FillAt _ _ _ _ _ _ _ _ _ from FillAt.but prsStays hP hbut (fun q hq=>by subst hq;omega)))
      exact hls.conv (Kept.refl _ _) (fun a _ _ ha=>ha.2) fun r p _ hp=>PrAt.conv (fun q hq=>hq.2) (Kept.refl _ _) (Nat.le_refl _) hp
     ·intro p hp
      obtain⟨x,hx,rfl⟩:=List.mem_map.1 hp
      have he:=emits_pr x
      have h8:=hE x hx
      refine⟨Nat.zero_le _,?_,?_⟩
      ·rw[he];split
       ·omega
       ·simp
      ·rw[he];split
       ·exact(Hoks.out x hx).2.2
       ·simp
     ·intro p hp
      obtain⟨x,hx,rfl⟩:=List.mem_map.1 hp
      have h8:=hE x hx
      have e:(prOf x).body=x.ems.map emSt:=rfl
      rw[e,List.length_map]
      exact h8
end Go.Proofs.YtomfpjgcficlgaaGreat
