/- Parts of this proof, one behind the other: PrsG. -/
import Derived.Test.YtjjfkhbajidmdaaGreatDoorPb20
import Derived.Test.YtjjfkhbajidmdaaGreatDoorPb6
import Derived.Deep.RegionHeld3
import Derived.Test.YtjjfkhbajidmdaaGreatDoorPb11
set_option maxRecDepth 1000000
set_option maxHeartbeats 40000000
namespace Go.Proofs.YtjjfkhbajidmdaaGreatDoor
open Go.RowKit Go.Afx
theorem Xe {F:Nat→Prop} {n c g:Nat} {w:World} {A:Option Addr} {xs:List Co} (h:ai F w 2 rO A n c xs) (hF:∀ k,F k→k<g) {k:Nat} (hk:k<n) :
  ∃ b o x,A=some ⟨b,o,none⟩∧xs[k]?=some x∧∀ W,Wrote g w W→b<W.heap.size∧W.cell? ⟨b,o+k*2,none⟩=some (.string x.name)∧W.cell? ⟨b,o+k*2+1,none⟩=some (.int .i64 x.kind):=by
 obtain⟨b,o,r,x,hA,hb,FH,hx,_,⟨rfl,_,_⟩,hc⟩:=h.get hk
 exact⟨b,o,x,hA,hx,fun W hW=>⟨Nat.lt_of_lt_of_le hb hW.1.size,(hW.1.cell (p:=⟨b,o+k*2,none⟩) (hF b FH)).trans (by simpa using hc 0 _ rfl),(hW.1.cell (p:=⟨b,o+k*2+1,none⟩) (hF b FH)).trans (hc 1 _ rfl)⟩⟩
theorem aku {w:World} {g:Nat} {T:TypeId} {v0 v1:Value} (h:af w g T #[v0,v1]):w.cell? ⟨g,0,none⟩=some v0∧w.cell? ⟨g,1,none⟩=some v1∧g<w.heap.size:=by
 have h0:=h.cell 0;have h1:=h.cell 1
 simp at h0 h1
 exact⟨h0,h1,h.lt⟩
theorem aaT (k:Int):(jY k).length≤4:=by
 unfold jY
 split
 ·decide
 ·split<;>decide
theorem Xf (F:Nat→Prop) (name src part:ByteArray) (fuel:Int) (params:List Co) (Ap Ab:Option Addr) (np cp nb cb:Nat) (TB:List UInt8) (BB:Bool) (g:Nat) (t:List UInt8) (br:Bool) (w:World) (h:bz g t br w) (hp:ai F w 2 rO Ap np cp params) (hks:∀ c∈params,1≤c.kind∧c.kind≤3) (hF:∀ k,F k→k<g) (hf0:0≤fuel) (hf1:fuel≤100000)
  (hB:Does g w 39 #[.pointer (some ⟨g,0,none⟩),.slice Ab nb cb,.int .i64 0] TB BB)
  (hlen:t.length+([112,114,111,99,32]++name.data.toList++[40]++aQ (params.map dM)++[41]++(if noS part then [] else [32,111,110,32]++part.data.toList)++(if noS src then [] else [32,102,114,111,109,32]++src.data.toList)++(if fuel=100 then [] else [32,102,117,101,108,32]++dU fuel)++[32]++TB).length≤1000000000) :
  Calls Tryz.prog 18 #[.pointer (some ⟨g,0,none⟩),.agg #[.string name,.string src,.string part,.int .i64 fuel,.slice Ap np cp,.slice Ab nb cb]] w fun e' w'=>e'=.returned (.tuple #[])∧bz g (t++([112,114,111,99,32]++name.data.toList++[40]++aQ (params.map dM)++[41]++(if noS part then [] else [32,111,110,32]++part.data.toList)++(if noS src then [] else [32,102,114,111,109,32]++src.data.toList)++(if fuel=100 then [] else [32,102,117,101,108,32]++dU fuel)++[32]++TB)) (br||BB) w'∧Wrote g w w':=by
 generalize hTX:([112,114,111,99,32]++name.data.toList++[40]++aQ (params.map dM)++[41]++(if noS part then [] else [32,111,110,32]++part.data.toList)++(if noS src then [] else [32,102,114,111,109,32]++src.data.toList)++(if fuel=100 then [] else [32,102,117,101,108,32]++dU fuel)++[32]++TB)=TX
 have HTX:=ae hTX
 clear hTX
 have hn:=ai.gu hp
 have hne:=ai.len hp
 have TJ:=ae (fun k (hk:k<np)=>Xe hp hF hk)
 have Hks:=ae hks
 have RZ:=ae (fun W=>uh fuel W hf0 (by omega))
 have HB:=ae hB
 obtain⟨w1,Hw1⟩:∃ w1,Hid (w1=w.alloc (.cells #[.string name,.string src,.string part,.int .i64 fuel,.slice Ap np cp,.slice Ab nb cb] 30)):=⟨_,rfl⟩
 have hb1:Below w.heap.size w w1:=by rw[Hw1.out];exact(Below.refl _ _).alloc (Nat.le_refl _) _
 have hk1:af w1 w.heap.size 30 #[.string name,.string src,.string part,.int .i64 fuel,.slice Ap np cp,.slice Ab nb cb]:=by rw[Hw1.out];exact af.laid _ _ _
 have iV:=ae (Wrote.of_below (Nat.le_of_lt h.lt) hb1:Wrote g w w1)
 have Hx:=ae (fun W (hW:Wrote g w1 W)=>lX (hW.2.2 _ _ _ (by decide) (by decide) hk1))
 have bU:=h.below hb1
 have Hlen:=ae hlen
 obtain⟨x0,x1,x2,x3,x4,x5,xl⟩:=Hx.out _ (Wrote.refl _ _)
 clear hk1 h hlen hb1 hp hks hF hB hf0 hf1
 go_enter Tryz.func18,Tryz.ntmps18
 go_upto_region 1 with (fail)
 rw[← Hw1.out]
 go_wp2_with (fail)
 refine(aF g 3 _ _ [⟨#[112,114,111,99,32]⟩,name,⟨#[40]⟩] _ bU rfl (by decide) (by have h9:=Hlen.out;simp[aB] at h9 ⊢;omega)).mono ?_
 rintro e' w2 ⟨rfl,bI,hr2⟩
 have e1:t++aB [⟨#[112,114,111,99,32]⟩,name,⟨#[40]⟩]=t++([112,114,111,99,32]++name.data.toList++[40]):=by simp[aB]
 rw[e1] at bI
 have Hl:=ae (show (t++([112,114,111,99,32]++name.data.toList++[40])).length+(aQ (params.map dM)).length+([41]++(if noS part then [] else [32,111,110,32]++part.data.toList)++(if noS src then [] else [32,102,114,111,109,32]++src.data.toList)++(if fuel=100 then [] else [32,102,117,101,108,32]++dU fuel)++[32]++TB).length≤1000000000 from by have h9:=Hlen.out;simp only[List.length_append] at h9 ⊢;omega)
 have He1:=ae (show t++([112,114,111,99,32]++name.data.toList++[40]++aQ (params.map dM)++[41]++(if noS part then [] else [32,111,110,32]++part.data.toList)++(if noS src then [] else [32,102,114,111,109,32]++src.data.toList)++(if fuel=100 then [] else [32,102,117,101,108,32]++dU fuel)++[32]++TB)=t++([112,114,111,99,32]++name.data.toList++[40])++aQ (params.map dM)++([41]++(if noS part then [] else [32,111,110,32]++part.data.toList)++(if noS src then [] else [32,102,114,111,109,32]++src.data.toList)++(if fuel=100 then [] else [32,102,117,101,108,32]++dU fuel)++[32]++TB) from by simp)
 generalize t++([112,114,111,99,32]++name.data.toList++[40])=P at *
 have HR2:=ae hr2
 have Hw2:=ae bI
 clear x0 x1 x2 x3 x4 x5 xl bU hr2 bI e1
 obtain⟨x0,x1,x2,x3,x4,x5,xl⟩:=Hx.out _ HR2.out
 have KD:=ae (fun W (hW:Wrote g w2 W)=>Hx.out W (HR2.out.trans hW))
 go_wp2
 go_loopw [14] (fun i wr=>∃ k:Nat,k≤np∧i=.int .i64 k∧Hid (bz g (P++aQ ((params.map dM).take k)) br wr)∧Hid (Wrote g w2 wr)) (fun i _=>np-(intOf i).toNat)
 case atStart=>exact⟨0,Nat.zero_le _,rfl,ae (by simpa [aQ] using Hw2.out),ae (Wrote.refl _ _)⟩
 case round =>
  obtain⟨k,hk,rfl,HW,HR⟩:=hrel
  rcases Nat.lt_or_ge k np with hlt|hge
  ·obtain⟨b,o,c,rfl,he,hat⟩:=TJ.out k hlt
   obtain⟨hbl,z0,z1⟩:=hat _ (iV.out.trans (HR2.out.trans HR.out))
   have hlm:k<(params.map dM).length:=by rw[List.length_map];omega
   have hjl:=uj hlm
   have hjt:=uZ hlm
   have hgt:(params.map dM)[k]'hlm=dM c:=by
    obtain⟨h1,h2⟩:=List.getElem?_eq_some_iff.1 he
    rw[List.getElem_map,h2]
   rw[hgt] at hjl hjt
   obtain⟨k1,k2⟩:=Hks.out c (List.mem_of_getElem? he)
   obtain⟨nm,kd⟩:=c
   have k1:1≤kd:=k1
   have k2:kd≤3:=k2
   have hpt:dM ⟨nm,kd⟩=nm.data.toList++[32]++jY kd:=rfl
   rw[hpt] at hjl hjt
   have zJ:=ae (show (P++aQ ((params.map dM).take k)).length+(if k=0 then 0 else 2)+(nm.data.toList++[32]++jY kd).length≤1000000000 from by have:=Hl.out;rw[List.length_append];omega)
   have NP:=ae hjt
   obtain⟨w4,FK⟩:∃ w4,Hid (w4=wr.alloc (.cells #[.string nm,.int .i64 kd] 67)):=⟨_,rfl⟩
   have hb4:Below wr.heap.size wr w4:=by rw[FK.out];exact(Below.refl _ _).alloc (Nat.le_refl _) _
   have hk4:af w4 wr.heap.size 67 #[.string nm,.int .i64 kd]:=by rw[FK.out];exact af.laid _ _ _
   have bu:=HW.out.below hb4
   have hr4:Wrote g wr w4:=Wrote.of_below (Nat.le_of_lt HW.out.lt) hb4
   have HR4:=ae (HR.out.trans hr4)
   have Hc:=ae (fun W (hW:Wrote g w4 W)=>aku (hW.2.2 _ _ _ (by decide) (by decide) hk4))
   clear hb4 hk4 hr4 hjl hjt hgt he hlm hat hpt
   go_upto_region 5 with (fail)
   rw[← FK.out]
   clear z0 z1 hbl
   rcases Nat.eq_zero_or_pos k with rfl|h0
   ·rw[if_pos rfl] at zJ NP
    obtain⟨y0,y1,yl⟩:=Hc.out _ (Wrote.refl _ _)
    have G9:=ae bu
    have Xg:=ae (Wrote.refl g w4)
    clear bu
    obtain rfl|rfl|rfl:kd=1∨kd=2∨kd=3:=by omega
    ·have i0:IntKind.i64.wrap 0=0:=by decide
     have DI:=(Below.refl w4.heap.size w4).drew.alloc (Nat.le_refl _) (.cells #[.string ⟨#[105,110,116]⟩,.string ⟨#[116,101,120,116]⟩,.string ⟨#[98,111,111,108]⟩] 9)
     have Ja:=G9.out.below DI
     have HRK:=ae (Xg.out.trans (Wrote.of_below (Nat.le_of_lt G9.out.lt) DI))
     have DJ:=Hc.out _ HRK.out
     have hl3:=((((Below.refl w4.heap.size w4).alloc (Nat.le_refl _) (.cells #[.string ⟨#[105,110,116]⟩,.string ⟨#[116,101,120,116]⟩,.string ⟨#[98,111,111,108]⟩] 9)).alloc (by simp) (.cells #[.string nm,.string ⟨#[32]⟩,.string ⟨#[105,110,116]⟩] 9)).drew)
     have bH:=G9.out.below hl3
     have hblk:af (((w4.alloc (.cells #[.string ⟨#[105,110,116]⟩,.string ⟨#[116,101,120,116]⟩,.string ⟨#[98,111,111,108]⟩] 9)).alloc (.cells #[.string nm,.string ⟨#[32]⟩,.string ⟨#[105,110,116]⟩] 9)).drew) (w4.heap.size+1) 9 #[.string nm,.string ⟨#[32]⟩,.string ⟨#[105,110,116]⟩]:=by
      show af ((w4.alloc (.cells #[.string ⟨#[105,110,116]⟩,.string ⟨#[116,101,120,116]⟩,.string ⟨#[98,111,111,108]⟩] 9)).alloc (.cells #[.string nm,.string ⟨#[32]⟩,.string ⟨#[105,110,116]⟩] 9)) (w4.heap.size+1) 9 #[.string nm,.string ⟨#[32]⟩,.string ⟨#[105,110,116]⟩]
      exact fZ (by simp) _ _
     have HP:=ae (put_any g (w4.heap.size+1) 3 _ br [nm,⟨#[32]⟩,⟨#[105,110,116]⟩] (((w4.alloc (.cells #[.string ⟨#[105,110,116]⟩,.string ⟨#[116,101,120,116]⟩,.string ⟨#[98,111,111,108]⟩] 9)).alloc (.cells #[.string nm,.string ⟨#[32]⟩,.string ⟨#[105,110,116]⟩] 9)).drew) bH hblk rfl (by decide) (by have h9:=zJ.out;simp[aB,jY] at h9 ⊢;omega))
     have HR3:=ae (Xg.out.trans (Wrote.of_below (Nat.le_of_lt G9.out.lt) hl3))
     have hS3:=Hc.out _ HR3.out
     have Hzk:=ae DI.size
     have Il:=ae hl3.size
     have bM:(fun W=>W.cell? ⟨wr.heap.size,0,none⟩=some (.string nm)∧W.cell? ⟨wr.heap.size,1,none⟩=some (.int .i64 1)∧wr.heap.size<W.heap.size∧w4.heap.size≤W.heap.size) w4.drew:=⟨y0,y1,yl,Nat.le_refl _⟩
     have lQ:(fun W=>W.cell? ⟨wr.heap.size,0,none⟩=some (.string nm)∧W.cell? ⟨wr.heap.size,1,none⟩=some (.int .i64 1)∧wr.heap.size<W.heap.size∧w4.heap.size≤W.heap.size) (w4.drew.alloc (.cells #[.string ⟨#[105,110,116]⟩,.string ⟨#[116,101,120,116]⟩,.string ⟨#[98,111,111,108]⟩] 9)):=⟨DJ.1,DJ.2.1,DJ.2.2,Hzk.out⟩
     have wR:(fun W=>W.cell? ⟨wr.heap.size,0,none⟩=some (.string nm)∧W.cell? ⟨wr.heap.size,1,none⟩=some (.int .i64 1)∧wr.heap.size<W.heap.size∧w4.heap.size≤W.heap.size) (((w4.alloc (.cells #[.string ⟨#[105,110,116]⟩,.string ⟨#[116,101,120,116]⟩,.string ⟨#[98,111,111,108]⟩] 9)).alloc (.cells #[.string nm,.string ⟨#[32]⟩,.string ⟨#[105,110,116]⟩] 9)).drew):=⟨hS3.1,hS3.2.1,hS3.2.2,Il.out⟩
     clear DI hl3 DJ hS3 Ja bH hblk
     go_upto_region 7 with (fail)
     refine wp_region_noPanic ?_
     refine wp_region_held (S:=(fun W=>W.cell? ⟨wr.heap.size,0,none⟩=some (.string nm)∧W.cell? ⟨wr.heap.size,1,none⟩=some (.int .i64 1)∧wr.heap.size<W.heap.size∧w4.heap.size≤W.heap.size)) (by kernel_rfl) ?_
     change wpAnyH _ _ _ _ _ _ _ _ (World.drew _)
     refine tk 0 (.pointer (some ⟨g,0,none⟩)) rfl bM ?_
     go_simp
     refine tk 1 (.pointer (some ⟨wr.heap.size,0,none⟩)) rfl bM ?_
     go_simp
     refine tk 2 (.string nm) rfl bM ?_
     go_simp
     refine tk 4 (.pointer (some ⟨wr.heap.size,1,none⟩)) rfl bM ?_
     go_simp
     refine tk 5 (.int .i64 1) rfl bM ?_
     go_simp
     refine tk 6 (.int .i64 0) rfl bM ?_
     go_simp
     refine wpAnyH_ready (rs:=[3]) (by kernel_rfl) (by simp) ?_
     refine AllReadyH.cons rfl (fun K hK=>?_) AllReadyH.nil
     go_simp
     refine hK.out _ _ lQ (fun _=>?_);clear hK K
     refine tk 7 (.pointer (some ⟨w4.heap.size,0,none⟩)) rfl lQ ?_
     go_simp
     refine wpAnyH_ready (rs:=[8]) (by kernel_rfl) (by simp) ?_
     refine AllReadyH.cons rfl (fun K hK=>?_) AllReadyH.nil
     go_simp
     refine hK.out _ _ lQ (fun _=>?_);clear hK K
     refine wpAnyH_ready (rs:=[9]) (by kernel_rfl) (by simp) ?_
     refine AllReadyH.cons rfl (fun K hK=>?_) AllReadyH.nil
     go_simp
     refine hK.out _ _ wR (fun _=>?_);clear hK K
     refine wpAnyH_ready (rs:=[10]) (by kernel_rfl) (by simp) ?_
     refine AllReadyH.cons rfl (fun K hK=>?_) AllReadyH.nil
     go_simp
     with_reducible refine HP.out.mono ?_
     rintro e' w7 ⟨rfl,jo,rU⟩
     have H7:=ae (And.intro jo (HR3.out.trans rU))
     have hS7:=Hc.out _ H7.out.2
     have Hz7:=ae rU.1.size
     clear jo rU
     go_simp
     refine hK.out _ _ ⟨hS7.1,hS7.2.1,hS7.2.2,Nat.le_trans Il.out Hz7.out⟩ (fun _=>?_);clear hK K
     refine wpAnyH_done (by kernel_rfl) ?_ _
     refine NoPanic.normal ?_
     clear bM lQ wR hS7 y0 y1 yl
     go_wp2
     go_roundw
     case rel =>
      refine⟨0+1,by omega,by go_num,ae ?_,ae (HR4.out.trans H7.out.2)⟩
      rw[NP.out]
      simpa [aB,jY,aQ] using H7.out.1
     case measure=>simp[intOf];omega
    ·have i0:IntKind.i64.wrap 1=1:=by decide
     have DI:=(Below.refl w4.heap.size w4).drew.alloc (Nat.le_refl _) (.cells #[.string ⟨#[105,110,116]⟩,.string ⟨#[116,101,120,116]⟩,.string ⟨#[98,111,111,108]⟩] 9)
     have Ja:=G9.out.below DI
     have HRK:=ae (Xg.out.trans (Wrote.of_below (Nat.le_of_lt G9.out.lt) DI))
     have DJ:=Hc.out _ HRK.out
     have hl3:=((((Below.refl w4.heap.size w4).alloc (Nat.le_refl _) (.cells #[.string ⟨#[105,110,116]⟩,.string ⟨#[116,101,120,116]⟩,.string ⟨#[98,111,111,108]⟩] 9)).alloc (by simp) (.cells #[.string nm,.string ⟨#[32]⟩,.string ⟨#[116,101,120,116]⟩] 9)).drew)
     have bH:=G9.out.below hl3
     have hblk:af (((w4.alloc (.cells #[.string ⟨#[105,110,116]⟩,.string ⟨#[116,101,120,116]⟩,.string ⟨#[98,111,111,108]⟩] 9)).alloc (.cells #[.string nm,.string ⟨#[32]⟩,.string ⟨#[116,101,120,116]⟩] 9)).drew) (w4.heap.size+1) 9 #[.string nm,.string ⟨#[32]⟩,.string ⟨#[116,101,120,116]⟩]:=by
      show af ((w4.alloc (.cells #[.string ⟨#[105,110,116]⟩,.string ⟨#[116,101,120,116]⟩,.string ⟨#[98,111,111,108]⟩] 9)).alloc (.cells #[.string nm,.string ⟨#[32]⟩,.string ⟨#[116,101,120,116]⟩] 9)) (w4.heap.size+1) 9 #[.string nm,.string ⟨#[32]⟩,.string ⟨#[116,101,120,116]⟩]
      exact fZ (by simp) _ _
     have HP:=ae (put_any g (w4.heap.size+1) 3 _ br [nm,⟨#[32]⟩,⟨#[116,101,120,116]⟩] (((w4.alloc (.cells #[.string ⟨#[105,110,116]⟩,.string ⟨#[116,101,120,116]⟩,.string ⟨#[98,111,111,108]⟩] 9)).alloc (.cells #[.string nm,.string ⟨#[32]⟩,.string ⟨#[116,101,120,116]⟩] 9)).drew) bH hblk rfl (by decide) (by have h9:=zJ.out;simp[aB,jY] at h9 ⊢;omega))
     have HR3:=ae (Xg.out.trans (Wrote.of_below (Nat.le_of_lt G9.out.lt) hl3))
     have hS3:=Hc.out _ HR3.out
     have Hzk:=ae DI.size
     have Il:=ae hl3.size
     have bM:(fun W=>W.cell? ⟨wr.heap.size,0,none⟩=some (.string nm)∧W.cell? ⟨wr.heap.size,1,none⟩=some (.int .i64 2)∧wr.heap.size<W.heap.size∧w4.heap.size≤W.heap.size) w4.drew:=⟨y0,y1,yl,Nat.le_refl _⟩
     have lQ:(fun W=>W.cell? ⟨wr.heap.size,0,none⟩=some (.string nm)∧W.cell? ⟨wr.heap.size,1,none⟩=some (.int .i64 2)∧wr.heap.size<W.heap.size∧w4.heap.size≤W.heap.size) (w4.drew.alloc (.cells #[.string ⟨#[105,110,116]⟩,.string ⟨#[116,101,120,116]⟩,.string ⟨#[98,111,111,108]⟩] 9)):=⟨DJ.1,DJ.2.1,DJ.2.2,Hzk.out⟩
     have wR:(fun W=>W.cell? ⟨wr.heap.size,0,none⟩=some (.string nm)∧W.cell? ⟨wr.heap.size,1,none⟩=some (.int .i64 2)∧wr.heap.size<W.heap.size∧w4.heap.size≤W.heap.size) (((w4.alloc (.cells #[.string ⟨#[105,110,116]⟩,.string ⟨#[116,101,120,116]⟩,.string ⟨#[98,111,111,108]⟩] 9)).alloc (.cells #[.string nm,.string ⟨#[32]⟩,.string ⟨#[116,101,120,116]⟩] 9)).drew):=⟨hS3.1,hS3.2.1,hS3.2.2,Il.out⟩
     clear DI hl3 DJ hS3 Ja bH hblk
     go_upto_region 7 with (fail)
     refine wp_region_noPanic ?_
     refine wp_region_held (S:=(fun W=>W.cell? ⟨wr.heap.size,0,none⟩=some (.string nm)∧W.cell? ⟨wr.heap.size,1,none⟩=some (.int .i64 2)∧wr.heap.size<W.heap.size∧w4.heap.size≤W.heap.size)) (by kernel_rfl) ?_
     change wpAnyH _ _ _ _ _ _ _ _ (World.drew _)
     refine tk 0 (.pointer (some ⟨g,0,none⟩)) rfl bM ?_
     go_simp
     refine tk 1 (.pointer (some ⟨wr.heap.size,0,none⟩)) rfl bM ?_
     go_simp
     refine tk 2 (.string nm) rfl bM ?_
     go_simp
     refine tk 4 (.pointer (some ⟨wr.heap.size,1,none⟩)) rfl bM ?_
     go_simp
     refine tk 5 (.int .i64 2) rfl bM ?_
     go_simp
     refine tk 6 (.int .i64 1) rfl bM ?_
     go_simp
     refine wpAnyH_ready (rs:=[3]) (by kernel_rfl) (by simp) ?_
     refine AllReadyH.cons rfl (fun K hK=>?_) AllReadyH.nil
     go_simp
     refine hK.out _ _ lQ (fun _=>?_);clear hK K
     refine tk 7 (.pointer (some ⟨w4.heap.size,1,none⟩)) rfl lQ ?_
     go_simp
     refine wpAnyH_ready (rs:=[8]) (by kernel_rfl) (by simp) ?_
     refine AllReadyH.cons rfl (fun K hK=>?_) AllReadyH.nil
     go_simp
     refine hK.out _ _ lQ (fun _=>?_);clear hK K
     refine wpAnyH_ready (rs:=[9]) (by kernel_rfl) (by simp) ?_
     refine AllReadyH.cons rfl (fun K hK=>?_) AllReadyH.nil
     go_simp
     refine hK.out _ _ wR (fun _=>?_);clear hK K
     refine wpAnyH_ready (rs:=[10]) (by kernel_rfl) (by simp) ?_
     refine AllReadyH.cons rfl (fun K hK=>?_) AllReadyH.nil
     go_simp
     with_reducible refine HP.out.mono ?_
     rintro e' w7 ⟨rfl,jo,rU⟩
     have H7:=ae (And.intro jo (HR3.out.trans rU))
     have hS7:=Hc.out _ H7.out.2
     have Hz7:=ae rU.1.size
     clear jo rU
     go_simp
     refine hK.out _ _ ⟨hS7.1,hS7.2.1,hS7.2.2,Nat.le_trans Il.out Hz7.out⟩ (fun _=>?_);clear hK K
     refine wpAnyH_done (by kernel_rfl) ?_ _
     refine NoPanic.normal ?_
     clear bM lQ wR hS7 y0 y1 yl
     go_wp2
     go_roundw
     case rel =>
      refine⟨0+1,by omega,by go_num,ae ?_,ae (HR4.out.trans H7.out.2)⟩
      rw[NP.out]
      simpa [aB,jY,aQ] using H7.out.1
     case measure=>simp[intOf];omega
    ·have i0:IntKind.i64.wrap 2=2:=by decide
     have DI:=(Below.refl w4.heap.size w4).drew.alloc (Nat.le_refl _) (.cells #[.string ⟨#[105,110,116]⟩,.string ⟨#[116,101,120,116]⟩,.string ⟨#[98,111,111,108]⟩] 9)
     have Ja:=G9.out.below DI
     have HRK:=ae (Xg.out.trans (Wrote.of_below (Nat.le_of_lt G9.out.lt) DI))
     have DJ:=Hc.out _ HRK.out
     have hl3:=((((Below.refl w4.heap.size w4).alloc (Nat.le_refl _) (.cells #[.string ⟨#[105,110,116]⟩,.string ⟨#[116,101,120,116]⟩,.string ⟨#[98,111,111,108]⟩] 9)).alloc (by simp) (.cells #[.string nm,.string ⟨#[32]⟩,.string ⟨#[98,111,111,108]⟩] 9)).drew)
     have bH:=G9.out.below hl3
     have hblk:af (((w4.alloc (.cells #[.string ⟨#[105,110,116]⟩,.string ⟨#[116,101,120,116]⟩,.string ⟨#[98,111,111,108]⟩] 9)).alloc (.cells #[.string nm,.string ⟨#[32]⟩,.string ⟨#[98,111,111,108]⟩] 9)).drew) (w4.heap.size+1) 9 #[.string nm,.string ⟨#[32]⟩,.string ⟨#[98,111,111,108]⟩]:=by
      show af ((w4.alloc (.cells #[.string ⟨#[105,110,116]⟩,.string ⟨#[116,101,120,116]⟩,.string ⟨#[98,111,111,108]⟩] 9)).alloc (.cells #[.string nm,.string ⟨#[32]⟩,.string ⟨#[98,111,111,108]⟩] 9)) (w4.heap.size+1) 9 #[.string nm,.string ⟨#[32]⟩,.string ⟨#[98,111,111,108]⟩]
      exact fZ (by simp) _ _
     have HP:=ae (put_any g (w4.heap.size+1) 3 _ br [nm,⟨#[32]⟩,⟨#[98,111,111,108]⟩] (((w4.alloc (.cells #[.string ⟨#[105,110,116]⟩,.string ⟨#[116,101,120,116]⟩,.string ⟨#[98,111,111,108]⟩] 9)).alloc (.cells #[.string nm,.string ⟨#[32]⟩,.string ⟨#[98,111,111,108]⟩] 9)).drew) bH hblk rfl (by decide) (by have h9:=zJ.out;simp[aB,jY] at h9 ⊢;omega))
     have HR3:=ae (Xg.out.trans (Wrote.of_below (Nat.le_of_lt G9.out.lt) hl3))
     have hS3:=Hc.out _ HR3.out
     have Hzk:=ae DI.size
     have Il:=ae hl3.size
     have bM:(fun W=>W.cell? ⟨wr.heap.size,0,none⟩=some (.string nm)∧W.cell? ⟨wr.heap.size,1,none⟩=some (.int .i64 3)∧wr.heap.size<W.heap.size∧w4.heap.size≤W.heap.size) w4.drew:=⟨y0,y1,yl,Nat.le_refl _⟩
     have lQ:(fun W=>W.cell? ⟨wr.heap.size,0,none⟩=some (.string nm)∧W.cell? ⟨wr.heap.size,1,none⟩=some (.int .i64 3)∧wr.heap.size<W.heap.size∧w4.heap.size≤W.heap.size) (w4.drew.alloc (.cells #[.string ⟨#[105,110,116]⟩,.string ⟨#[116,101,120,116]⟩,.string ⟨#[98,111,111,108]⟩] 9)):=⟨DJ.1,DJ.2.1,DJ.2.2,Hzk.out⟩
     have wR:(fun W=>W.cell? ⟨wr.heap.size,0,none⟩=some (.string nm)∧W.cell? ⟨wr.heap.size,1,none⟩=some (.int .i64 3)∧wr.heap.size<W.heap.size∧w4.heap.size≤W.heap.size) (((w4.alloc (.cells #[.string ⟨#[105,110,116]⟩,.string ⟨#[116,101,120,116]⟩,.string ⟨#[98,111,111,108]⟩] 9)).alloc (.cells #[.string nm,.string ⟨#[32]⟩,.string ⟨#[98,111,111,108]⟩] 9)).drew):=⟨hS3.1,hS3.2.1,hS3.2.2,Il.out⟩
     clear DI hl3 DJ hS3 Ja bH hblk
     go_upto_region 7 with (fail)
     refine wp_region_noPanic ?_
     refine wp_region_held (S:=(fun W=>W.cell? ⟨wr.heap.size,0,none⟩=some (.string nm)∧W.cell? ⟨wr.heap.size,1,none⟩=some (.int .i64 3)∧wr.heap.size<W.heap.size∧w4.heap.size≤W.heap.size)) (by kernel_rfl) ?_
     change wpAnyH _ _ _ _ _ _ _ _ (World.drew _)
     refine tk 0 (.pointer (some ⟨g,0,none⟩)) rfl bM ?_
     go_simp
     refine tk 1 (.pointer (some ⟨wr.heap.size,0,none⟩)) rfl bM ?_
     go_simp
     refine tk 2 (.string nm) rfl bM ?_
     go_simp
     refine tk 4 (.pointer (some ⟨wr.heap.size,1,none⟩)) rfl bM ?_
     go_simp
     refine tk 5 (.int .i64 3) rfl bM ?_
     go_simp
     refine tk 6 (.int .i64 2) rfl bM ?_
     go_simp
     refine wpAnyH_ready (rs:=[3]) (by kernel_rfl) (by simp) ?_
     refine AllReadyH.cons rfl (fun K hK=>?_) AllReadyH.nil
     go_simp
     refine hK.out _ _ lQ (fun _=>?_);clear hK K
     refine tk 7 (.pointer (some ⟨w4.heap.size,2,none⟩)) rfl lQ ?_
     go_simp
     refine wpAnyH_ready (rs:=[8]) (by kernel_rfl) (by simp) ?_
     refine AllReadyH.cons rfl (fun K hK=>?_) AllReadyH.nil
     go_simp
     refine hK.out _ _ lQ (fun _=>?_);clear hK K
     refine wpAnyH_ready (rs:=[9]) (by kernel_rfl) (by simp) ?_
     refine AllReadyH.cons rfl (fun K hK=>?_) AllReadyH.nil
     go_simp
     refine hK.out _ _ wR (fun _=>?_);clear hK K
     refine wpAnyH_ready (rs:=[10]) (by kernel_rfl) (by simp) ?_
     refine AllReadyH.cons rfl (fun K hK=>?_) AllReadyH.nil
     go_simp
     with_reducible refine HP.out.mono ?_
     rintro e' w7 ⟨rfl,jo,rU⟩
     have H7:=ae (And.intro jo (HR3.out.trans rU))
     have hS7:=Hc.out _ H7.out.2
     have Hz7:=ae rU.1.size
     clear jo rU
     go_simp
     refine hK.out _ _ ⟨hS7.1,hS7.2.1,hS7.2.2,Nat.le_trans Il.out Hz7.out⟩ (fun _=>?_);clear hK K
     refine wpAnyH_done (by kernel_rfl) ?_ _
     refine NoPanic.normal ?_
     clear bM lQ wR hS7 y0 y1 yl
     go_wp2
     go_roundw
     case rel =>
      refine⟨0+1,by omega,by go_num,ae ?_,ae (HR4.out.trans H7.out.2)⟩
      rw[NP.out]
      simpa [aB,jY,aQ] using H7.out.1
     case measure=>simp[intOf];omega
   ·rw[if_neg (by omega)] at zJ NP
    go_wp2_with (fail)
    refine(aF g 1 _ _ [⟨#[44,32]⟩] _ bu rfl (by decide) (by have h9:=zJ.out;have e2:(aB [⟨#[44,32]⟩]).length=2:=rfl;omega)).mono ?_
    rintro e' w5 ⟨rfl,di,jf⟩
    obtain⟨y0,y1,yl⟩:=Hc.out _ jf
    have G9:=ae di
    have Xg:=ae jf
    clear bu di jf
    obtain rfl|rfl|rfl:kd=1∨kd=2∨kd=3:=by omega
    ·have i0:IntKind.i64.wrap 0=0:=by decide
     have DI:=(Below.refl w5.heap.size w5).drew.alloc (Nat.le_refl _) (.cells #[.string ⟨#[105,110,116]⟩,.string ⟨#[116,101,120,116]⟩,.string ⟨#[98,111,111,108]⟩] 9)
     have Ja:=G9.out.below DI
     have HRK:=ae (Xg.out.trans (Wrote.of_below (Nat.le_of_lt G9.out.lt) DI))
     have DJ:=Hc.out _ HRK.out
     have hl3:=((((Below.refl w5.heap.size w5).alloc (Nat.le_refl _) (.cells #[.string ⟨#[105,110,116]⟩,.string ⟨#[116,101,120,116]⟩,.string ⟨#[98,111,111,108]⟩] 9)).alloc (by simp) (.cells #[.string nm,.string ⟨#[32]⟩,.string ⟨#[105,110,116]⟩] 9)).drew)
     have bH:=G9.out.below hl3
     have hblk:af (((w5.alloc (.cells #[.string ⟨#[105,110,116]⟩,.string ⟨#[116,101,120,116]⟩,.string ⟨#[98,111,111,108]⟩] 9)).alloc (.cells #[.string nm,.string ⟨#[32]⟩,.string ⟨#[105,110,116]⟩] 9)).drew) (w5.heap.size+1) 9 #[.string nm,.string ⟨#[32]⟩,.string ⟨#[105,110,116]⟩]:=by
      show af ((w5.alloc (.cells #[.string ⟨#[105,110,116]⟩,.string ⟨#[116,101,120,116]⟩,.string ⟨#[98,111,111,108]⟩] 9)).alloc (.cells #[.string nm,.string ⟨#[32]⟩,.string ⟨#[105,110,116]⟩] 9)) (w5.heap.size+1) 9 #[.string nm,.string ⟨#[32]⟩,.string ⟨#[105,110,116]⟩]
      exact fZ (by simp) _ _
     have HP:=ae (put_any g (w5.heap.size+1) 3 _ br [nm,⟨#[32]⟩,⟨#[105,110,116]⟩] (((w5.alloc (.cells #[.string ⟨#[105,110,116]⟩,.string ⟨#[116,101,120,116]⟩,.string ⟨#[98,111,111,108]⟩] 9)).alloc (.cells #[.string nm,.string ⟨#[32]⟩,.string ⟨#[105,110,116]⟩] 9)).drew) bH hblk rfl (by decide) (by have h9:=zJ.out;simp[aB,jY] at h9 ⊢;omega))
     have HR3:=ae (Xg.out.trans (Wrote.of_below (Nat.le_of_lt G9.out.lt) hl3))
     have hS3:=Hc.out _ HR3.out
     have Hzk:=ae DI.size
     have Il:=ae hl3.size
     have bM:(fun W=>W.cell? ⟨wr.heap.size,0,none⟩=some (.string nm)∧W.cell? ⟨wr.heap.size,1,none⟩=some (.int .i64 1)∧wr.heap.size<W.heap.size∧w5.heap.size≤W.heap.size) w5.drew:=⟨y0,y1,yl,Nat.le_refl _⟩
     have lQ:(fun W=>W.cell? ⟨wr.heap.size,0,none⟩=some (.string nm)∧W.cell? ⟨wr.heap.size,1,none⟩=some (.int .i64 1)∧wr.heap.size<W.heap.size∧w5.heap.size≤W.heap.size) (w5.drew.alloc (.cells #[.string ⟨#[105,110,116]⟩,.string ⟨#[116,101,120,116]⟩,.string ⟨#[98,111,111,108]⟩] 9)):=⟨DJ.1,DJ.2.1,DJ.2.2,Hzk.out⟩
     have wR:(fun W=>W.cell? ⟨wr.heap.size,0,none⟩=some (.string nm)∧W.cell? ⟨wr.heap.size,1,none⟩=some (.int .i64 1)∧wr.heap.size<W.heap.size∧w5.heap.size≤W.heap.size) (((w5.alloc (.cells #[.string ⟨#[105,110,116]⟩,.string ⟨#[116,101,120,116]⟩,.string ⟨#[98,111,111,108]⟩] 9)).alloc (.cells #[.string nm,.string ⟨#[32]⟩,.string ⟨#[105,110,116]⟩] 9)).drew):=⟨hS3.1,hS3.2.1,hS3.2.2,Il.out⟩
     clear DI hl3 DJ hS3 Ja bH hblk
     go_upto_region 7 with (fail)
     refine wp_region_noPanic ?_
     refine wp_region_held (S:=(fun W=>W.cell? ⟨wr.heap.size,0,none⟩=some (.string nm)∧W.cell? ⟨wr.heap.size,1,none⟩=some (.int .i64 1)∧wr.heap.size<W.heap.size∧w5.heap.size≤W.heap.size)) (by kernel_rfl) ?_
     change wpAnyH _ _ _ _ _ _ _ _ (World.drew _)
     refine tk 0 (.pointer (some ⟨g,0,none⟩)) rfl bM ?_
     go_simp
     refine tk 1 (.pointer (some ⟨wr.heap.size,0,none⟩)) rfl bM ?_
     go_simp
     refine tk 2 (.string nm) rfl bM ?_
     go_simp
     refine tk 4 (.pointer (some ⟨wr.heap.size,1,none⟩)) rfl bM ?_
     go_simp
     refine tk 5 (.int .i64 1) rfl bM ?_
     go_simp
     refine tk 6 (.int .i64 0) rfl bM ?_
     go_simp
     refine wpAnyH_ready (rs:=[3]) (by kernel_rfl) (by simp) ?_
     refine AllReadyH.cons rfl (fun K hK=>?_) AllReadyH.nil
     go_simp
     refine hK.out _ _ lQ (fun _=>?_);clear hK K
     refine tk 7 (.pointer (some ⟨w5.heap.size,0,none⟩)) rfl lQ ?_
     go_simp
     refine wpAnyH_ready (rs:=[8]) (by kernel_rfl) (by simp) ?_
     refine AllReadyH.cons rfl (fun K hK=>?_) AllReadyH.nil
     go_simp
     refine hK.out _ _ lQ (fun _=>?_);clear hK K
     refine wpAnyH_ready (rs:=[9]) (by kernel_rfl) (by simp) ?_
     refine AllReadyH.cons rfl (fun K hK=>?_) AllReadyH.nil
     go_simp
     refine hK.out _ _ wR (fun _=>?_);clear hK K
     refine wpAnyH_ready (rs:=[10]) (by kernel_rfl) (by simp) ?_
     refine AllReadyH.cons rfl (fun K hK=>?_) AllReadyH.nil
     go_simp
     with_reducible refine HP.out.mono ?_
     rintro e' w7 ⟨rfl,jo,rU⟩
     have H7:=ae (And.intro jo (HR3.out.trans rU))
     have hS7:=Hc.out _ H7.out.2
     have Hz7:=ae rU.1.size
     clear jo rU
     go_simp
     refine hK.out _ _ ⟨hS7.1,hS7.2.1,hS7.2.2,Nat.le_trans Il.out Hz7.out⟩ (fun _=>?_);clear hK K
     refine wpAnyH_done (by kernel_rfl) ?_ _
     refine NoPanic.normal ?_
     clear bM lQ wR hS7 y0 y1 yl
     go_wp2
     go_roundw
     case rel =>
      refine⟨k+1,by omega,by go_num,ae ?_,ae (HR4.out.trans H7.out.2)⟩
      rw[NP.out]
      simpa [aB,jY] using H7.out.1
     case measure=>simp[intOf];omega
    ·have i0:IntKind.i64.wrap 1=1:=by decide
     have DI:=(Below.refl w5.heap.size w5).drew.alloc (Nat.le_refl _) (.cells #[.string ⟨#[105,110,116]⟩,.string ⟨#[116,101,120,116]⟩,.string ⟨#[98,111,111,108]⟩] 9)
     have Ja:=G9.out.below DI
     have HRK:=ae (Xg.out.trans (Wrote.of_below (Nat.le_of_lt G9.out.lt) DI))
     have DJ:=Hc.out _ HRK.out
     have hl3:=((((Below.refl w5.heap.size w5).alloc (Nat.le_refl _) (.cells #[.string ⟨#[105,110,116]⟩,.string ⟨#[116,101,120,116]⟩,.string ⟨#[98,111,111,108]⟩] 9)).alloc (by simp) (.cells #[.string nm,.string ⟨#[32]⟩,.string ⟨#[116,101,120,116]⟩] 9)).drew)
     have bH:=G9.out.below hl3
     have hblk:af (((w5.alloc (.cells #[.string ⟨#[105,110,116]⟩,.string ⟨#[116,101,120,116]⟩,.string ⟨#[98,111,111,108]⟩] 9)).alloc (.cells #[.string nm,.string ⟨#[32]⟩,.string ⟨#[116,101,120,116]⟩] 9)).drew) (w5.heap.size+1) 9 #[.string nm,.string ⟨#[32]⟩,.string ⟨#[116,101,120,116]⟩]:=by
      show af ((w5.alloc (.cells #[.string ⟨#[105,110,116]⟩,.string ⟨#[116,101,120,116]⟩,.string ⟨#[98,111,111,108]⟩] 9)).alloc (.cells #[.string nm,.string ⟨#[32]⟩,.string ⟨#[116,101,120,116]⟩] 9)) (w5.heap.size+1) 9 #[.string nm,.string ⟨#[32]⟩,.string ⟨#[116,101,120,116]⟩]
      exact fZ (by simp) _ _
     have HP:=ae (put_any g (w5.heap.size+1) 3 _ br [nm,⟨#[32]⟩,⟨#[116,101,120,116]⟩] (((w5.alloc (.cells #[.string ⟨#[105,110,116]⟩,.string ⟨#[116,101,120,116]⟩,.string ⟨#[98,111,111,108]⟩] 9)).alloc (.cells #[.string nm,.string ⟨#[32]⟩,.string ⟨#[116,101,120,116]⟩] 9)).drew) bH hblk rfl (by decide) (by have h9:=zJ.out;simp[aB,jY] at h9 ⊢;omega))
     have HR3:=ae (Xg.out.trans (Wrote.of_below (Nat.le_of_lt G9.out.lt) hl3))
     have hS3:=Hc.out _ HR3.out
     have Hzk:=ae DI.size
     have Il:=ae hl3.size
     have bM:(fun W=>W.cell? ⟨wr.heap.size,0,none⟩=some (.string nm)∧W.cell? ⟨wr.heap.size,1,none⟩=some (.int .i64 2)∧wr.heap.size<W.heap.size∧w5.heap.size≤W.heap.size) w5.drew:=⟨y0,y1,yl,Nat.le_refl _⟩
     have lQ:(fun W=>W.cell? ⟨wr.heap.size,0,none⟩=some (.string nm)∧W.cell? ⟨wr.heap.size,1,none⟩=some (.int .i64 2)∧wr.heap.size<W.heap.size∧w5.heap.size≤W.heap.size) (w5.drew.alloc (.cells #[.string ⟨#[105,110,116]⟩,.string ⟨#[116,101,120,116]⟩,.string ⟨#[98,111,111,108]⟩] 9)):=⟨DJ.1,DJ.2.1,DJ.2.2,Hzk.out⟩
     have wR:(fun W=>W.cell? ⟨wr.heap.size,0,none⟩=some (.string nm)∧W.cell? ⟨wr.heap.size,1,none⟩=some (.int .i64 2)∧wr.heap.size<W.heap.size∧w5.heap.size≤W.heap.size) (((w5.alloc (.cells #[.string ⟨#[105,110,116]⟩,.string ⟨#[116,101,120,116]⟩,.string ⟨#[98,111,111,108]⟩] 9)).alloc (.cells #[.string nm,.string ⟨#[32]⟩,.string ⟨#[116,101,120,116]⟩] 9)).drew):=⟨hS3.1,hS3.2.1,hS3.2.2,Il.out⟩
     clear DI hl3 DJ hS3 Ja bH hblk
     go_upto_region 7 with (fail)
     refine wp_region_noPanic ?_
     refine wp_region_held (S:=(fun W=>W.cell? ⟨wr.heap.size,0,none⟩=some (.string nm)∧W.cell? ⟨wr.heap.size,1,none⟩=some (.int .i64 2)∧wr.heap.size<W.heap.size∧w5.heap.size≤W.heap.size)) (by kernel_rfl) ?_
     change wpAnyH _ _ _ _ _ _ _ _ (World.drew _)
     refine tk 0 (.pointer (some ⟨g,0,none⟩)) rfl bM ?_
     go_simp
     refine tk 1 (.pointer (some ⟨wr.heap.size,0,none⟩)) rfl bM ?_
     go_simp
     refine tk 2 (.string nm) rfl bM ?_
     go_simp
     refine tk 4 (.pointer (some ⟨wr.heap.size,1,none⟩)) rfl bM ?_
     go_simp
     refine tk 5 (.int .i64 2) rfl bM ?_
     go_simp
     refine tk 6 (.int .i64 1) rfl bM ?_
     go_simp
     refine wpAnyH_ready (rs:=[3]) (by kernel_rfl) (by simp) ?_
     refine AllReadyH.cons rfl (fun K hK=>?_) AllReadyH.nil
     go_simp
     refine hK.out _ _ lQ (fun _=>?_);clear hK K
     refine tk 7 (.pointer (some ⟨w5.heap.size,1,none⟩)) rfl lQ ?_
     go_simp
     refine wpAnyH_ready (rs:=[8]) (by kernel_rfl) (by simp) ?_
     refine AllReadyH.cons rfl (fun K hK=>?_) AllReadyH.nil
     go_simp
     refine hK.out _ _ lQ (fun _=>?_);clear hK K
     refine wpAnyH_ready (rs:=[9]) (by kernel_rfl) (by simp) ?_
     refine AllReadyH.cons rfl (fun K hK=>?_) AllReadyH.nil
     go_simp
     refine hK.out _ _ wR (fun _=>?_);clear hK K
     refine wpAnyH_ready (rs:=[10]) (by kernel_rfl) (by simp) ?_
     refine AllReadyH.cons rfl (fun K hK=>?_) AllReadyH.nil
     go_simp
     with_reducible refine HP.out.mono ?_
     rintro e' w7 ⟨rfl,jo,rU⟩
     have H7:=ae (And.intro jo (HR3.out.trans rU))
     have hS7:=Hc.out _ H7.out.2
     have Hz7:=ae rU.1.size
     clear jo rU
     go_simp
     refine hK.out _ _ ⟨hS7.1,hS7.2.1,hS7.2.2,Nat.le_trans Il.out Hz7.out⟩ (fun _=>?_);clear hK K
     refine wpAnyH_done (by kernel_rfl) ?_ _
     refine NoPanic.normal ?_
     clear bM lQ wR hS7 y0 y1 yl
     go_wp2
     go_roundw
     case rel =>
      refine⟨k+1,by omega,by go_num,ae ?_,ae (HR4.out.trans H7.out.2)⟩
      rw[NP.out]
      simpa [aB,jY] using H7.out.1
     case measure=>simp[intOf];omega
    ·have i0:IntKind.i64.wrap 2=2:=by decide
     have DI:=(Below.refl w5.heap.size w5).drew.alloc (Nat.le_refl _) (.cells #[.string ⟨#[105,110,116]⟩,.string ⟨#[116,101,120,116]⟩,.string ⟨#[98,111,111,108]⟩] 9)
     have Ja:=G9.out.below DI
     have HRK:=ae (Xg.out.trans (Wrote.of_below (Nat.le_of_lt G9.out.lt) DI))
     have DJ:=Hc.out _ HRK.out
     have hl3:=((((Below.refl w5.heap.size w5).alloc (Nat.le_refl _) (.cells #[.string ⟨#[105,110,116]⟩,.string ⟨#[116,101,120,116]⟩,.string ⟨#[98,111,111,108]⟩] 9)).alloc (by simp) (.cells #[.string nm,.string ⟨#[32]⟩,.string ⟨#[98,111,111,108]⟩] 9)).drew)
     have bH:=G9.out.below hl3
     have hblk:af (((w5.alloc (.cells #[.string ⟨#[105,110,116]⟩,.string ⟨#[116,101,120,116]⟩,.string ⟨#[98,111,111,108]⟩] 9)).alloc (.cells #[.string nm,.string ⟨#[32]⟩,.string ⟨#[98,111,111,108]⟩] 9)).drew) (w5.heap.size+1) 9 #[.string nm,.string ⟨#[32]⟩,.string ⟨#[98,111,111,108]⟩]:=by
      show af ((w5.alloc (.cells #[.string ⟨#[105,110,116]⟩,.string ⟨#[116,101,120,116]⟩,.string ⟨#[98,111,111,108]⟩] 9)).alloc (.cells #[.string nm,.string ⟨#[32]⟩,.string ⟨#[98,111,111,108]⟩] 9)) (w5.heap.size+1) 9 #[.string nm,.string ⟨#[32]⟩,.string ⟨#[98,111,111,108]⟩]
      exact fZ (by simp) _ _
     have HP:=ae (put_any g (w5.heap.size+1) 3 _ br [nm,⟨#[32]⟩,⟨#[98,111,111,108]⟩] (((w5.alloc (.cells #[.string ⟨#[105,110,116]⟩,.string ⟨#[116,101,120,116]⟩,.string ⟨#[98,111,111,108]⟩] 9)).alloc (.cells #[.string nm,.string ⟨#[32]⟩,.string ⟨#[98,111,111,108]⟩] 9)).drew) bH hblk rfl (by decide) (by have h9:=zJ.out;simp[aB,jY] at h9 ⊢;omega))
     have HR3:=ae (Xg.out.trans (Wrote.of_below (Nat.le_of_lt G9.out.lt) hl3))
     have hS3:=Hc.out _ HR3.out
     have Hzk:=ae DI.size
     have Il:=ae hl3.size
     have bM:(fun W=>W.cell? ⟨wr.heap.size,0,none⟩=some (.string nm)∧W.cell? ⟨wr.heap.size,1,none⟩=some (.int .i64 3)∧wr.heap.size<W.heap.size∧w5.heap.size≤W.heap.size) w5.drew:=⟨y0,y1,yl,Nat.le_refl _⟩
     have lQ:(fun W=>W.cell? ⟨wr.heap.size,0,none⟩=some (.string nm)∧W.cell? ⟨wr.heap.size,1,none⟩=some (.int .i64 3)∧wr.heap.size<W.heap.size∧w5.heap.size≤W.heap.size) (w5.drew.alloc (.cells #[.string ⟨#[105,110,116]⟩,.string ⟨#[116,101,120,116]⟩,.string ⟨#[98,111,111,108]⟩] 9)):=⟨DJ.1,DJ.2.1,DJ.2.2,Hzk.out⟩
     have wR:(fun W=>W.cell? ⟨wr.heap.size,0,none⟩=some (.string nm)∧W.cell? ⟨wr.heap.size,1,none⟩=some (.int .i64 3)∧wr.heap.size<W.heap.size∧w5.heap.size≤W.heap.size) (((w5.alloc (.cells #[.string ⟨#[105,110,116]⟩,.string ⟨#[116,101,120,116]⟩,.string ⟨#[98,111,111,108]⟩] 9)).alloc (.cells #[.string nm,.string ⟨#[32]⟩,.string ⟨#[98,111,111,108]⟩] 9)).drew):=⟨hS3.1,hS3.2.1,hS3.2.2,Il.out⟩
     clear DI hl3 DJ hS3 Ja bH hblk
     go_upto_region 7 with (fail)
     refine wp_region_noPanic ?_
     refine wp_region_held (S:=(fun W=>W.cell? ⟨wr.heap.size,0,none⟩=some (.string nm)∧W.cell? ⟨wr.heap.size,1,none⟩=some (.int .i64 3)∧wr.heap.size<W.heap.size∧w5.heap.size≤W.heap.size)) (by kernel_rfl) ?_
     change wpAnyH _ _ _ _ _ _ _ _ (World.drew _)
     refine tk 0 (.pointer (some ⟨g,0,none⟩)) rfl bM ?_
     go_simp
     refine tk 1 (.pointer (some ⟨wr.heap.size,0,none⟩)) rfl bM ?_
     go_simp
     refine tk 2 (.string nm) rfl bM ?_
     go_simp
     refine tk 4 (.pointer (some ⟨wr.heap.size,1,none⟩)) rfl bM ?_
     go_simp
     refine tk 5 (.int .i64 3) rfl bM ?_
     go_simp
     refine tk 6 (.int .i64 2) rfl bM ?_
     go_simp
     refine wpAnyH_ready (rs:=[3]) (by kernel_rfl) (by simp) ?_
     refine AllReadyH.cons rfl (fun K hK=>?_) AllReadyH.nil
     go_simp
     refine hK.out _ _ lQ (fun _=>?_);clear hK K
     refine tk 7 (.pointer (some ⟨w5.heap.size,2,none⟩)) rfl lQ ?_
     go_simp
     refine wpAnyH_ready (rs:=[8]) (by kernel_rfl) (by simp) ?_
     refine AllReadyH.cons rfl (fun K hK=>?_) AllReadyH.nil
     go_simp
     refine hK.out _ _ lQ (fun _=>?_);clear hK K
     refine wpAnyH_ready (rs:=[9]) (by kernel_rfl) (by simp) ?_
     refine AllReadyH.cons rfl (fun K hK=>?_) AllReadyH.nil
     go_simp
     refine hK.out _ _ wR (fun _=>?_);clear hK K
     refine wpAnyH_ready (rs:=[10]) (by kernel_rfl) (by simp) ?_
     refine AllReadyH.cons rfl (fun K hK=>?_) AllReadyH.nil
     go_simp
     with_reducible refine HP.out.mono ?_
     rintro e' w7 ⟨rfl,jo,rU⟩
     have H7:=ae (And.intro jo (HR3.out.trans rU))
     have hS7:=Hc.out _ H7.out.2
     have Hz7:=ae rU.1.size
     clear jo rU
     go_simp
     refine hK.out _ _ ⟨hS7.1,hS7.2.1,hS7.2.2,Nat.le_trans Il.out Hz7.out⟩ (fun _=>?_);clear hK K
     refine wpAnyH_done (by kernel_rfl) ?_ _
     refine NoPanic.normal ?_
     clear bM lQ wR hS7 y0 y1 yl
     go_wp2
     go_roundw
     case rel =>
      refine⟨k+1,by omega,by go_num,ae ?_,ae (HR4.out.trans H7.out.2)⟩
      rw[NP.out]
      simpa [aB,jY] using H7.out.1
     case measure=>simp[intOf];omega
  ·obtain rfl:k=np:=Nat.le_antisymm hk hge
   have e1:(params.map dM).take k=params.map dM:=List.take_of_length_le (by rw[List.length_map];omega)
   rw[e1] at HW
   have wz:=ae (show (P++aQ (params.map dM)).length+([41]++(if noS part then [] else [32,111,110,32]++part.data.toList)++(if noS src then [] else [32,102,114,111,109,32]++src.data.toList)++(if fuel=100 then [] else [32,102,117,101,108,32]++dU fuel)++[32]++TB).length≤1000000000 from by have:=Hl.out;rw[List.length_append];omega)
   generalize P++aQ (params.map dM)=P5 at *
   have bU:=HW.out
   have Sj:=ae (HR2.out.trans HR.out)
   have tX:=ae (fun W (hW:Wrote g wr W)=>KD.out W (HR.out.trans hW))
   have iG:=ae (Wrote.refl g wr)
   clear x0 x1 x2 x3 x4 x5 xl
   obtain⟨x0,x1,x2,x3,x4,x5,xl⟩:=tX.out _ (Wrote.refl _ _)
   cases c1:noS part<;>cases c2:noS src<;>by_cases c3:fuel=100
   ·have s1:=str_some c1
    have s2:=str_some c2
    have q3:(fuel==100)=true:=by simp[c3]
    go_wp2_with (fail)
    refine(aF g 1 _ _ [⟨#[41]⟩] _ bU rfl (by decide) (by have h9:=wz.out;simp[aB,c1,c2,c3] at h9 ⊢;omega)).mono ?_
    rintro e' w2 ⟨rfl,bI,hr2⟩
    have gm:=ae (iG.out.trans hr2)
    clear x0 x1 x2 x3 x4 x5 xl bU hr2
    obtain⟨x0,x1,x2,x3,x4,x5,xl⟩:=tX.out _ gm.out
    go_wp2_with (fail)
    refine(aF g 2 _ _ [⟨#[32,111,110,32]⟩,part] _ bI rfl (by decide) (by have h9:=wz.out;simp[aB,c1,c2,c3] at h9 ⊢;omega)).mono ?_
    rintro e' w3 ⟨rfl,bH,hr3⟩
    have jm:=ae (gm.out.trans hr3)
    clear x0 x1 x2 x3 x4 x5 xl bI hr3
    obtain⟨x0,x1,x2,x3,x4,x5,xl⟩:=tX.out _ jm.out
    go_wp2_with (fail)
    refine(aF g 2 _ _ [⟨#[32,102,114,111,109,32]⟩,src] _ bH rfl (by decide) (by have h9:=wz.out;simp[aB,c1,c2,c3] at h9 ⊢;omega)).mono ?_
    rintro e' w4 ⟨rfl,bu,hr4⟩
    have jg:=ae (jm.out.trans hr4)
    clear x0 x1 x2 x3 x4 x5 xl bH hr4
    obtain⟨x0,x1,x2,x3,x4,x5,xl⟩:=tX.out _ jg.out
    go_wp2_with (fail)
    refine(aF g 1 _ _ [⟨#[32]⟩] _ bu rfl (by decide) (by have h9:=wz.out;simp[aB,c1,c2,c3] at h9 ⊢;omega)).mono ?_
    rintro e' w5 ⟨rfl,di,jf⟩
    have lY:=ae (jg.out.trans jf)
    clear x0 x1 x2 x3 x4 x5 xl bu jf
    obtain⟨x0,x1,x2,x3,x4,x5,xl⟩:=tX.out _ lY.out
    go_wp2_with (fail)
    refine(HB.out _ _ _ (iV.out.trans (Sj.out.trans lY.out)) di (by have h9:=wz.out;simp[aB,c1,c2,c3] at h9 ⊢;omega)).mono ?_
    rintro e' w6 ⟨rfl,eG,lI⟩
    have Aj:=ae (lY.out.trans lI)
    clear x0 x1 x2 x3 x4 x5 xl di lI
    obtain⟨x0,x1,x2,x3,x4,x5,xl⟩:=tX.out _ Aj.out
    have H:=ae (And.intro eG (iV.out.trans (Sj.out.trans Aj.out)))
    clear eG x0 x1 x2 x3 x4 x5 xl
    go_wp2
    go_end0
    have hf:bz g (t++([112,114,111,99,32]++name.data.toList++[40]++aQ (params.map dM)++[41]++(if noS part then [] else [32,111,110,32]++part.data.toList)++(if noS src then [] else [32,102,114,111,109,32]++src.data.toList)++(if fuel=100 then [] else [32,102,117,101,108,32]++dU fuel)++[32]++TB)) (br||BB) w6:=by rw[He1.out];simpa [aB,c1,c2,c3] using H.out.1
    exact⟨rfl,by rw[← HTX.out];exact hf,H.out.2⟩
   ·have s1:=str_some c1
    have s2:=str_some c2
    have q3:(fuel==100)=false:=by simp[c3]
    go_wp2_with (fail)
    refine(aF g 1 _ _ [⟨#[41]⟩] _ bU rfl (by decide) (by have h9:=wz.out;simp[aB,c1,c2,c3] at h9 ⊢;omega)).mono ?_
    rintro e' w2 ⟨rfl,bI,hr2⟩
    have gm:=ae (iG.out.trans hr2)
    clear x0 x1 x2 x3 x4 x5 xl bU hr2
    obtain⟨x0,x1,x2,x3,x4,x5,xl⟩:=tX.out _ gm.out
    go_wp2_with (fail)
    refine(aF g 2 _ _ [⟨#[32,111,110,32]⟩,part] _ bI rfl (by decide) (by have h9:=wz.out;simp[aB,c1,c2,c3] at h9 ⊢;omega)).mono ?_
    rintro e' w3 ⟨rfl,bH,hr3⟩
    have jm:=ae (gm.out.trans hr3)
    clear x0 x1 x2 x3 x4 x5 xl bI hr3
    obtain⟨x0,x1,x2,x3,x4,x5,xl⟩:=tX.out _ jm.out
    go_wp2_with (fail)
    refine(aF g 2 _ _ [⟨#[32,102,114,111,109,32]⟩,src] _ bH rfl (by decide) (by have h9:=wz.out;simp[aB,c1,c2,c3] at h9 ⊢;omega)).mono ?_
    rintro e' w4 ⟨rfl,bu,hr4⟩
    have jg:=ae (jm.out.trans hr4)
    clear x0 x1 x2 x3 x4 x5 xl bH hr4
    obtain⟨x0,x1,x2,x3,x4,x5,xl⟩:=tX.out _ jg.out
    go_wp2_with (go_at_call 38;refine(RZ.out _).mono ?_)
    rintro x w5 ⟨rfl,hb5⟩
    have jf:Wrote g w4 w5:=Wrote.of_below (Nat.le_of_lt bu.lt) hb5
    have di:=bu.below hb5
    clear hb5
    have lY:=ae (jg.out.trans jf)
    clear x0 x1 x2 x3 x4 x5 xl bu jf
    obtain⟨x0,x1,x2,x3,x4,x5,xl⟩:=tX.out _ lY.out
    go_wp2_with (fail)
    refine(aF g 2 _ _ [⟨#[32,102,117,101,108,32]⟩,⟨(dU fuel).toArray⟩] _ di rfl (by decide) (by have h9:=wz.out;simp[aB,c1,c2,c3] at h9 ⊢;omega)).mono ?_
    rintro e' w6 ⟨rfl,eG,lI⟩
    have Aj:=ae (lY.out.trans lI)
    clear x0 x1 x2 x3 x4 x5 xl di lI
    obtain⟨x0,x1,x2,x3,x4,x5,xl⟩:=tX.out _ Aj.out
    go_wp2_with (fail)
    refine(aF g 1 _ _ [⟨#[32]⟩] _ eG rfl (by decide) (by have h9:=wz.out;simp[aB,c1,c2,c3] at h9 ⊢;omega)).mono ?_
    rintro e' w7 ⟨rfl,jo,rU⟩
    have NM:=ae (Aj.out.trans rU)
    clear x0 x1 x2 x3 x4 x5 xl eG rU
    obtain⟨x0,x1,x2,x3,x4,x5,xl⟩:=tX.out _ NM.out
    go_wp2_with (fail)
    refine(HB.out _ _ _ (iV.out.trans (Sj.out.trans NM.out)) jo (by have h9:=wz.out;simp[aB,c1,c2,c3] at h9 ⊢;omega)).mono ?_
    rintro e' w8 ⟨rfl,IV,VC⟩
    have Hr8:=ae (NM.out.trans VC)
    clear x0 x1 x2 x3 x4 x5 xl jo VC
    obtain⟨x0,x1,x2,x3,x4,x5,xl⟩:=tX.out _ Hr8.out
    have H:=ae (And.intro IV (iV.out.trans (Sj.out.trans Hr8.out)))
    clear IV x0 x1 x2 x3 x4 x5 xl
    go_wp2
    go_end0
    have hf:bz g (t++([112,114,111,99,32]++name.data.toList++[40]++aQ (params.map dM)++[41]++(if noS part then [] else [32,111,110,32]++part.data.toList)++(if noS src then [] else [32,102,114,111,109,32]++src.data.toList)++(if fuel=100 then [] else [32,102,117,101,108,32]++dU fuel)++[32]++TB)) (br||BB) w8:=by rw[He1.out];simpa [aB,c1,c2,c3] using H.out.1
    exact⟨rfl,by rw[← HTX.out];exact hf,H.out.2⟩
   ·have s1:=str_some c1
    have s2:=dA c2
    have q3:(fuel==100)=true:=by simp[c3]
    go_wp2_with (fail)
    refine(aF g 1 _ _ [⟨#[41]⟩] _ bU rfl (by decide) (by have h9:=wz.out;simp[aB,c1,c2,c3] at h9 ⊢;omega)).mono ?_
    rintro e' w2 ⟨rfl,bI,hr2⟩
    have gm:=ae (iG.out.trans hr2)
    clear x0 x1 x2 x3 x4 x5 xl bU hr2
    obtain⟨x0,x1,x2,x3,x4,x5,xl⟩:=tX.out _ gm.out
    go_wp2_with (fail)
    refine(aF g 2 _ _ [⟨#[32,111,110,32]⟩,part] _ bI rfl (by decide) (by have h9:=wz.out;simp[aB,c1,c2,c3] at h9 ⊢;omega)).mono ?_
    rintro e' w3 ⟨rfl,bH,hr3⟩
    have jm:=ae (gm.out.trans hr3)
    clear x0 x1 x2 x3 x4 x5 xl bI hr3
    obtain⟨x0,x1,x2,x3,x4,x5,xl⟩:=tX.out _ jm.out
    go_wp2_with (fail)
    refine(aF g 1 _ _ [⟨#[32]⟩] _ bH rfl (by decide) (by have h9:=wz.out;simp[aB,c1,c2,c3] at h9 ⊢;omega)).mono ?_
    rintro e' w4 ⟨rfl,bu,hr4⟩
    have jg:=ae (jm.out.trans hr4)
    clear x0 x1 x2 x3 x4 x5 xl bH hr4
    obtain⟨x0,x1,x2,x3,x4,x5,xl⟩:=tX.out _ jg.out
    go_wp2_with (fail)
    refine(HB.out _ _ _ (iV.out.trans (Sj.out.trans jg.out)) bu (by have h9:=wz.out;simp[aB,c1,c2,c3] at h9 ⊢;omega)).mono ?_
    rintro e' w5 ⟨rfl,di,jf⟩
    have lY:=ae (jg.out.trans jf)
    clear x0 x1 x2 x3 x4 x5 xl bu jf
    obtain⟨x0,x1,x2,x3,x4,x5,xl⟩:=tX.out _ lY.out
    have H:=ae (And.intro di (iV.out.trans (Sj.out.trans lY.out)))
    clear di x0 x1 x2 x3 x4 x5 xl
    go_wp2
    go_end0
    have hf:bz g (t++([112,114,111,99,32]++name.data.toList++[40]++aQ (params.map dM)++[41]++(if noS part then [] else [32,111,110,32]++part.data.toList)++(if noS src then [] else [32,102,114,111,109,32]++src.data.toList)++(if fuel=100 then [] else [32,102,117,101,108,32]++dU fuel)++[32]++TB)) (br||BB) w5:=by rw[He1.out];simpa [aB,c1,c2,c3] using H.out.1
    exact⟨rfl,by rw[← HTX.out];exact hf,H.out.2⟩
   ·have s1:=str_some c1
    have s2:=dA c2
    have q3:(fuel==100)=false:=by simp[c3]
    go_wp2_with (fail)
    refine(aF g 1 _ _ [⟨#[41]⟩] _ bU rfl (by decide) (by have h9:=wz.out;simp[aB,c1,c2,c3] at h9 ⊢;omega)).mono ?_
    rintro e' w2 ⟨rfl,bI,hr2⟩
    have gm:=ae (iG.out.trans hr2)
    clear x0 x1 x2 x3 x4 x5 xl bU hr2
    obtain⟨x0,x1,x2,x3,x4,x5,xl⟩:=tX.out _ gm.out
    go_wp2_with (fail)
    refine(aF g 2 _ _ [⟨#[32,111,110,32]⟩,part] _ bI rfl (by decide) (by have h9:=wz.out;simp[aB,c1,c2,c3] at h9 ⊢;omega)).mono ?_
    rintro e' w3 ⟨rfl,bH,hr3⟩
    have jm:=ae (gm.out.trans hr3)
    clear x0 x1 x2 x3 x4 x5 xl bI hr3
    obtain⟨x0,x1,x2,x3,x4,x5,xl⟩:=tX.out _ jm.out
    go_wp2_with (go_at_call 38;refine(RZ.out _).mono ?_)
    rintro x w4 ⟨rfl,hb4⟩
    have hr4:Wrote g w3 w4:=Wrote.of_below (Nat.le_of_lt bH.lt) hb4
    have bu:=bH.below hb4
    clear hb4
    have jg:=ae (jm.out.trans hr4)
    clear x0 x1 x2 x3 x4 x5 xl bH hr4
    obtain⟨x0,x1,x2,x3,x4,x5,xl⟩:=tX.out _ jg.out
    go_wp2_with (fail)
    refine(aF g 2 _ _ [⟨#[32,102,117,101,108,32]⟩,⟨(dU fuel).toArray⟩] _ bu rfl (by decide) (by have h9:=wz.out;simp[aB,c1,c2,c3] at h9 ⊢;omega)).mono ?_
    rintro e' w5 ⟨rfl,di,jf⟩
    have lY:=ae (jg.out.trans jf)
    clear x0 x1 x2 x3 x4 x5 xl bu jf
    obtain⟨x0,x1,x2,x3,x4,x5,xl⟩:=tX.out _ lY.out
    go_wp2_with (fail)
    refine(aF g 1 _ _ [⟨#[32]⟩] _ di rfl (by decide) (by have h9:=wz.out;simp[aB,c1,c2,c3] at h9 ⊢;omega)).mono ?_
    rintro e' w6 ⟨rfl,eG,lI⟩
    have Aj:=ae (lY.out.trans lI)
    clear x0 x1 x2 x3 x4 x5 xl di lI
    obtain⟨x0,x1,x2,x3,x4,x5,xl⟩:=tX.out _ Aj.out
    go_wp2_with (fail)
    refine(HB.out _ _ _ (iV.out.trans (Sj.out.trans Aj.out)) eG (by have h9:=wz.out;simp[aB,c1,c2,c3] at h9 ⊢;omega)).mono ?_
    rintro e' w7 ⟨rfl,jo,rU⟩
    have NM:=ae (Aj.out.trans rU)
    clear x0 x1 x2 x3 x4 x5 xl eG rU
    obtain⟨x0,x1,x2,x3,x4,x5,xl⟩:=tX.out _ NM.out
    have H:=ae (And.intro jo (iV.out.trans (Sj.out.trans NM.out)))
    clear jo x0 x1 x2 x3 x4 x5 xl
    go_wp2
    go_end0
    have hf:bz g (t++([112,114,111,99,32]++name.data.toList++[40]++aQ (params.map dM)++[41]++(if noS part then [] else [32,111,110,32]++part.data.toList)++(if noS src then [] else [32,102,114,111,109,32]++src.data.toList)++(if fuel=100 then [] else [32,102,117,101,108,32]++dU fuel)++[32]++TB)) (br||BB) w7:=by rw[He1.out];simpa [aB,c1,c2,c3] using H.out.1
    exact⟨rfl,by rw[← HTX.out];exact hf,H.out.2⟩
   ·have s1:=dA c1
    have s2:=str_some c2
    have q3:(fuel==100)=true:=by simp[c3]
    go_wp2_with (fail)
    refine(aF g 1 _ _ [⟨#[41]⟩] _ bU rfl (by decide) (by have h9:=wz.out;simp[aB,c1,c2,c3] at h9 ⊢;omega)).mono ?_
    rintro e' w2 ⟨rfl,bI,hr2⟩
    have gm:=ae (iG.out.trans hr2)
    clear x0 x1 x2 x3 x4 x5 xl bU hr2
    obtain⟨x0,x1,x2,x3,x4,x5,xl⟩:=tX.out _ gm.out
    go_wp2_with (fail)
    refine(aF g 2 _ _ [⟨#[32,102,114,111,109,32]⟩,src] _ bI rfl (by decide) (by have h9:=wz.out;simp[aB,c1,c2,c3] at h9 ⊢;omega)).mono ?_
    rintro e' w3 ⟨rfl,bH,hr3⟩
    have jm:=ae (gm.out.trans hr3)
    clear x0 x1 x2 x3 x4 x5 xl bI hr3
    obtain⟨x0,x1,x2,x3,x4,x5,xl⟩:=tX.out _ jm.out
    go_wp2_with (fail)
    refine(aF g 1 _ _ [⟨#[32]⟩] _ bH rfl (by decide) (by have h9:=wz.out;simp[aB,c1,c2,c3] at h9 ⊢;omega)).mono ?_
    rintro e' w4 ⟨rfl,bu,hr4⟩
    have jg:=ae (jm.out.trans hr4)
    clear x0 x1 x2 x3 x4 x5 xl bH hr4
    obtain⟨x0,x1,x2,x3,x4,x5,xl⟩:=tX.out _ jg.out
    go_wp2_with (fail)
    refine(HB.out _ _ _ (iV.out.trans (Sj.out.trans jg.out)) bu (by have h9:=wz.out;simp[aB,c1,c2,c3] at h9 ⊢;omega)).mono ?_
    rintro e' w5 ⟨rfl,di,jf⟩
    have lY:=ae (jg.out.trans jf)
    clear x0 x1 x2 x3 x4 x5 xl bu jf
    obtain⟨x0,x1,x2,x3,x4,x5,xl⟩:=tX.out _ lY.out
    have H:=ae (And.intro di (iV.out.trans (Sj.out.trans lY.out)))
    clear di x0 x1 x2 x3 x4 x5 xl
    go_wp2
    go_end0
    have hf:bz g (t++([112,114,111,99,32]++name.data.toList++[40]++aQ (params.map dM)++[41]++(if noS part then [] else [32,111,110,32]++part.data.toList)++(if noS src then [] else [32,102,114,111,109,32]++src.data.toList)++(if fuel=100 then [] else [32,102,117,101,108,32]++dU fuel)++[32]++TB)) (br||BB) w5:=by rw[He1.out];simpa [aB,c1,c2,c3] using H.out.1
    exact⟨rfl,by rw[← HTX.out];exact hf,H.out.2⟩
   ·have s1:=dA c1
    have s2:=str_some c2
    have q3:(fuel==100)=false:=by simp[c3]
    go_wp2_with (fail)
    refine(aF g 1 _ _ [⟨#[41]⟩] _ bU rfl (by decide) (by have h9:=wz.out;simp[aB,c1,c2,c3] at h9 ⊢;omega)).mono ?_
    rintro e' w2 ⟨rfl,bI,hr2⟩
    have gm:=ae (iG.out.trans hr2)
    clear x0 x1 x2 x3 x4 x5 xl bU hr2
    obtain⟨x0,x1,x2,x3,x4,x5,xl⟩:=tX.out _ gm.out
    go_wp2_with (fail)
    refine(aF g 2 _ _ [⟨#[32,102,114,111,109,32]⟩,src] _ bI rfl (by decide) (by have h9:=wz.out;simp[aB,c1,c2,c3] at h9 ⊢;omega)).mono ?_
    rintro e' w3 ⟨rfl,bH,hr3⟩
    have jm:=ae (gm.out.trans hr3)
    clear x0 x1 x2 x3 x4 x5 xl bI hr3
    obtain⟨x0,x1,x2,x3,x4,x5,xl⟩:=tX.out _ jm.out
    go_wp2_with (go_at_call 38;refine(RZ.out _).mono ?_)
    rintro x w4 ⟨rfl,hb4⟩
    have hr4:Wrote g w3 w4:=Wrote.of_below (Nat.le_of_lt bH.lt) hb4
    have bu:=bH.below hb4
    clear hb4
    have jg:=ae (jm.out.trans hr4)
    clear x0 x1 x2 x3 x4 x5 xl bH hr4
    obtain⟨x0,x1,x2,x3,x4,x5,xl⟩:=tX.out _ jg.out
    go_wp2_with (fail)
    refine(aF g 2 _ _ [⟨#[32,102,117,101,108,32]⟩,⟨(dU fuel).toArray⟩] _ bu rfl (by decide) (by have h9:=wz.out;simp[aB,c1,c2,c3] at h9 ⊢;omega)).mono ?_
    rintro e' w5 ⟨rfl,di,jf⟩
    have lY:=ae (jg.out.trans jf)
    clear x0 x1 x2 x3 x4 x5 xl bu jf
    obtain⟨x0,x1,x2,x3,x4,x5,xl⟩:=tX.out _ lY.out
    go_wp2_with (fail)
    refine(aF g 1 _ _ [⟨#[32]⟩] _ di rfl (by decide) (by have h9:=wz.out;simp[aB,c1,c2,c3] at h9 ⊢;omega)).mono ?_
    rintro e' w6 ⟨rfl,eG,lI⟩
    have Aj:=ae (lY.out.trans lI)
    clear x0 x1 x2 x3 x4 x5 xl di lI
    obtain⟨x0,x1,x2,x3,x4,x5,xl⟩:=tX.out _ Aj.out
    go_wp2_with (fail)
    refine(HB.out _ _ _ (iV.out.trans (Sj.out.trans Aj.out)) eG (by have h9:=wz.out;simp[aB,c1,c2,c3] at h9 ⊢;omega)).mono ?_
    rintro e' w7 ⟨rfl,jo,rU⟩
    have NM:=ae (Aj.out.trans rU)
    clear x0 x1 x2 x3 x4 x5 xl eG rU
    obtain⟨x0,x1,x2,x3,x4,x5,xl⟩:=tX.out _ NM.out
    have H:=ae (And.intro jo (iV.out.trans (Sj.out.trans NM.out)))
    clear jo x0 x1 x2 x3 x4 x5 xl
    go_wp2
    go_end0
    have hf:bz g (t++([112,114,111,99,32]++name.data.toList++[40]++aQ (params.map dM)++[41]++(if noS part then [] else [32,111,110,32]++part.data.toList)++(if noS src then [] else [32,102,114,111,109,32]++src.data.toList)++(if fuel=100 then [] else [32,102,117,101,108,32]++dU fuel)++[32]++TB)) (br||BB) w7:=by rw[He1.out];simpa [aB,c1,c2,c3] using H.out.1
    exact⟨rfl,by rw[← HTX.out];exact hf,H.out.2⟩
   ·have s1:=dA c1
    have s2:=dA c2
    have q3:(fuel==100)=true:=by simp[c3]
    go_wp2_with (fail)
    refine(aF g 1 _ _ [⟨#[41]⟩] _ bU rfl (by decide) (by have h9:=wz.out;simp[aB,c1,c2,c3] at h9 ⊢;omega)).mono ?_
    rintro e' w2 ⟨rfl,bI,hr2⟩
    have gm:=ae (iG.out.trans hr2)
    clear x0 x1 x2 x3 x4 x5 xl bU hr2
    obtain⟨x0,x1,x2,x3,x4,x5,xl⟩:=tX.out _ gm.out
    go_wp2_with (fail)
    refine(aF g 1 _ _ [⟨#[32]⟩] _ bI rfl (by decide) (by have h9:=wz.out;simp[aB,c1,c2,c3] at h9 ⊢;omega)).mono ?_
    rintro e' w3 ⟨rfl,bH,hr3⟩
    have jm:=ae (gm.out.trans hr3)
    clear x0 x1 x2 x3 x4 x5 xl bI hr3
    obtain⟨x0,x1,x2,x3,x4,x5,xl⟩:=tX.out _ jm.out
    go_wp2_with (fail)
    refine(HB.out _ _ _ (iV.out.trans (Sj.out.trans jm.out)) bH (by have h9:=wz.out;simp[aB,c1,c2,c3] at h9 ⊢;omega)).mono ?_
    rintro e' w4 ⟨rfl,bu,hr4⟩
    have jg:=ae (jm.out.trans hr4)
    clear x0 x1 x2 x3 x4 x5 xl bH hr4
    obtain⟨x0,x1,x2,x3,x4,x5,xl⟩:=tX.out _ jg.out
    have H:=ae (And.intro bu (iV.out.trans (Sj.out.trans jg.out)))
    clear bu x0 x1 x2 x3 x4 x5 xl
    go_wp2
    go_end0
    have hf:bz g (t++([112,114,111,99,32]++name.data.toList++[40]++aQ (params.map dM)++[41]++(if noS part then [] else [32,111,110,32]++part.data.toList)++(if noS src then [] else [32,102,114,111,109,32]++src.data.toList)++(if fuel=100 then [] else [32,102,117,101,108,32]++dU fuel)++[32]++TB)) (br||BB) w4:=by rw[He1.out];simpa [aB,c1,c2,c3] using H.out.1
    exact⟨rfl,by rw[← HTX.out];exact hf,H.out.2⟩
   ·have s1:=dA c1
    have s2:=dA c2
    have q3:(fuel==100)=false:=by simp[c3]
    go_wp2_with (fail)
    refine(aF g 1 _ _ [⟨#[41]⟩] _ bU rfl (by decide) (by have h9:=wz.out;simp[aB,c1,c2,c3] at h9 ⊢;omega)).mono ?_
    rintro e' w2 ⟨rfl,bI,hr2⟩
    have gm:=ae (iG.out.trans hr2)
    clear x0 x1 x2 x3 x4 x5 xl bU hr2
    obtain⟨x0,x1,x2,x3,x4,x5,xl⟩:=tX.out _ gm.out
    go_wp2_with (go_at_call 38;refine(RZ.out _).mono ?_)
    rintro x w3 ⟨rfl,hb3⟩
    have hr3:Wrote g w2 w3:=Wrote.of_below (Nat.le_of_lt bI.lt) hb3
    have bH:=bI.below hb3
    clear hb3
    have jm:=ae (gm.out.trans hr3)
    clear x0 x1 x2 x3 x4 x5 xl bI hr3
    obtain⟨x0,x1,x2,x3,x4,x5,xl⟩:=tX.out _ jm.out
    go_wp2_with (fail)
    refine(aF g 2 _ _ [⟨#[32,102,117,101,108,32]⟩,⟨(dU fuel).toArray⟩] _ bH rfl (by decide) (by have h9:=wz.out;simp[aB,c1,c2,c3] at h9 ⊢;omega)).mono ?_
    rintro e' w4 ⟨rfl,bu,hr4⟩
    have jg:=ae (jm.out.trans hr4)
    clear x0 x1 x2 x3 x4 x5 xl bH hr4
    obtain⟨x0,x1,x2,x3,x4,x5,xl⟩:=tX.out _ jg.out
    go_wp2_with (fail)
    refine(aF g 1 _ _ [⟨#[32]⟩] _ bu rfl (by decide) (by have h9:=wz.out;simp[aB,c1,c2,c3] at h9 ⊢;omega)).mono ?_
    rintro e' w5 ⟨rfl,di,jf⟩
    have lY:=ae (jg.out.trans jf)
    clear x0 x1 x2 x3 x4 x5 xl bu jf
    obtain⟨x0,x1,x2,x3,x4,x5,xl⟩:=tX.out _ lY.out
    go_wp2_with (fail)
    refine(HB.out _ _ _ (iV.out.trans (Sj.out.trans lY.out)) di (by have h9:=wz.out;simp[aB,c1,c2,c3] at h9 ⊢;omega)).mono ?_
    rintro e' w6 ⟨rfl,eG,lI⟩
    have Aj:=ae (lY.out.trans lI)
    clear x0 x1 x2 x3 x4 x5 xl di lI
    obtain⟨x0,x1,x2,x3,x4,x5,xl⟩:=tX.out _ Aj.out
    have H:=ae (And.intro eG (iV.out.trans (Sj.out.trans Aj.out)))
    clear eG x0 x1 x2 x3 x4 x5 xl
    go_wp2
    go_end0
    have hf:bz g (t++([112,114,111,99,32]++name.data.toList++[40]++aQ (params.map dM)++[41]++(if noS part then [] else [32,111,110,32]++part.data.toList)++(if noS src then [] else [32,102,114,111,109,32]++src.data.toList)++(if fuel=100 then [] else [32,102,117,101,108,32]++dU fuel)++[32]++TB)) (br||BB) w6:=by rw[He1.out];simpa [aB,c1,c2,c3] using H.out.1
    exact⟨rfl,by rw[← HTX.out];exact hf,H.out.2⟩
end Go.Proofs.YtjjfkhbajidmdaaGreatDoor
