/- Parts of this proof, one behind the other: ParZ3, ParZ4. -/
import Derived.Test.YtgbgiknfejpcoaaGreatPx26
import Derived.Deep.Cut
set_option maxRecDepth 1000000
set_option maxHeartbeats 40000000
namespace Go.Proofs.YtgbgiknfejpcoaaGreat
open Go.RowKit Go.Afx
def headP (W:Wds) (s:PSt):List Co×PSt:=if isP W s (str [41]) then ([],s) else list1 W (paramP W) s
def fromP (W:Wds) (s:PSt):(ByteArray×ByteArray)×PSt :=
 if (mayP W (str [111,110]) s).1 then ((nil0,(nameP W (mayP W (str [111,110]) s).2).1),(nameP W (mayP W (str [111,110]) s).2).2)
 else if (mayP W (str [102,114,111,109]) s).1 then (((nameP W (mayP W (str [102,114,111,109]) s).2).1,nil0),(nameP W (mayP W (str [102,114,111,109]) s).2).2)
 else ((nil0,nil0),s)
theorem fuelP_eq (W:Wds) (s:PSt):fuelP W s=if (mayP W (str [102,117,101,108]) s).1 then (min (numP W (mayP W (str [102,117,101,108]) s).2).1 2001,(numP W (mayP W (str [102,117,101,108]) s).2).2) else (100,s):=rfl
theorem procP_eq (W:Wds) (s:PSt):procP W s =
    (⟨(nameP W (mustP W [str [112,114,111,99]] s)).1,(fromP W (leaveP (mustP W [str [41]] (headP W (enterP (mustP W [str [40]] (nameP W (mustP W [str [112,114,111,99]] s)).2))).2))).1.1,(fromP W (leaveP (mustP W [str [41]] (headP W (enterP (mustP W [str [40]] (nameP W (mustP W [str [112,114,111,99]] s)).2))).2))).1.2,
      (fuelP W (fromP W (leaveP (mustP W [str [41]] (headP W (enterP (mustP W [str [40]] (nameP W (mustP W [str [112,114,111,99]] s)).2))).2))).2).1,(headP W (enterP (mustP W [str [40]] (nameP W (mustP W [str [112,114,111,99]] s)).2))).1,
      (block1 W (fuelP W (fromP W (leaveP (mustP W [str [41]] (headP W (enterP (mustP W [str [40]] (nameP W (mustP W [str [112,114,111,99]] s)).2))).2))).2).2).1⟩,
     (block1 W (fuelP W (fromP W (leaveP (mustP W [str [41]] (headP W (enterP (mustP W [str [40]] (nameP W (mustP W [str [112,114,111,99]] s)).2))).2))).2).2).2):=by
  unfold procP headP
  simp only
  generalize nameP W (mustP W [str [112,114,111,99]] s)=a
  generalize enterP (mustP W [str [40]] a.2)=s1
  generalize (if isP W s1 (str [41])=true then ([],s1) else list1 W (paramP W) s1:List Co×PSt)=l
  generalize leaveP (mustP W [str [41]] l.2)=s2
  unfold fromP
  generalize mayP W (str [111,110]) s2=m1
  generalize mayP W (str [102,114,111,109]) s2=m2
  obtain⟨b1,t1⟩:=m1
  obtain⟨b2,t2⟩:=m2
  cases b1<;>cases b2<;>rfl
def GivesP (gp gc gw:Nat) (W:Wds) (s':PSt) (x:Pr) (w:World) (e:Ending) (w':World):Prop:=∃ row D,e=.returned (.agg row.toArray)∧PrAt (Fr w) D w' row x∧PAt gp gc gw W s' w'∧But (On2 gp gc) w w'
abbrev zeroP:Array Value:=#[.string ⟨#[]⟩,.string ⟨#[]⟩,.string ⟨#[]⟩,.int .i64 0,.slice none 0 0,.slice none 0 0]
structure Prc (gp gc gw gb gr gx:Nat) (W:Wds) (s:PSt) (w wr:World) (nm src part:ByteArray) (fu:Int) (A:Option Addr) (c:Nat) (ps:List Co):Prop where
 p:PAt gp gc gw W s wr
 b:But (On2 gp gc) w wr
 kb:IsBlk wr gb 98 #[.pointer (some ⟨gp,0,none⟩)]
 kr:IsBlk wr gr 36 zeroP
 kx:IsBlk wr gx 36 #[.string nm,.string src,.string part,.int .i64 fu,.slice A ps.length c,.slice none 0 0]
 ls:LsAt (fun b=>gx<b) wr 2 CoRow A ps.length c ps
 ne:gp<gb∧gc<gb∧gw<gb∧gb<gr∧gr<gx∧gb=w.heap.size
section
variable {gp gc gw gb gr gx:Nat} {W:Wds} {s s':PSt} {w wr w8:World} {nm src part:ByteArray} {fu:Int} {A:Option Addr} {c:Nat} {ps:List Co}
theorem Prc.on2 (h:Prc gp gc gw gb gr gx W s w wr nm src part fu A c ps) (hP:PAt gp gc gw W s' w8) (hB:But (On2 gp gc) wr w8):Prc gp gc gw gb gr gx W s' w w8 nm src part fu A c ps :=
 ⟨hP,h.b.trans' hB,on2_blk h.kb hB (by have:=h.ne;omega),on2_blk h.kr hB (by have:=h.ne;omega),on2_blk h.kx hB (by have:=h.ne;omega),
  LsAt.kept h.ls (fr_on2 hB (fun k hk=>by have:=h.ne;omega)),h.ne⟩
theorem Prc.turned {src' part':ByteArray} {fu':Int} (h:Prc gp gc gw gb gr gx W s w wr nm src part fu A c ps) (hB:But (fun k=>k=gx) wr w8) (hk:IsBlk w8 gx 36 #[.string nm,.string src',.string part',.int .i64 fu',.slice A ps.length c,.slice none 0 0]):Prc gp gc gw gb gr gx W s w w8 nm src' part' fu' A c ps:=by
 have hn:=h.ne
 exact⟨h.p.elsewhere hB (by omega),h.b.trans hB (fun i hi=>.inr (by omega)),h.kb.as_was (hB.block _ h.kb.lt (by omega)),h.kr.as_was (hB.block _ h.kr.lt (by omega)),hk,
  LsAt.kept h.ls (Kept.of_but hB fun k hk e=>by omega),hn⟩
theorem Prc.src_ (h:Prc gp gc gw gb gr gx W s w wr nm src part fu A c ps) (x:ByteArray):Prc gp gc gw gb gr gx W s w (wr.setCell ⟨gx,1,none⟩ (.string x)) nm x part fu A c ps :=
 h.turned ((But.refl (fun k=>k=gx) wr).setCell (p:=⟨gx,1,none⟩) (.inl rfl) _) (h.kx.stored 1 (.string x))
theorem Prc.part_ (h:Prc gp gc gw gb gr gx W s w wr nm src part fu A c ps) (x:ByteArray):Prc gp gc gw gb gr gx W s w (wr.setCell ⟨gx,2,none⟩ (.string x)) nm src x fu A c ps :=
 h.turned ((But.refl (fun k=>k=gx) wr).setCell (p:=⟨gx,2,none⟩) (.inl rfl) _) (h.kx.stored 2 (.string x))
theorem Prc.fuel_ (h:Prc gp gc gw gb gr gx W s w wr nm src part fu A c ps) (x:Int):Prc gp gc gw gb gr gx W s w (wr.setCell ⟨gx,3,none⟩ (.int .i64 x)) nm src part x A c ps :=
 h.turned ((But.refl (fun k=>k=gx) wr).setCell (p:=⟨gx,3,none⟩) (.inl rfl) _) (h.kx.stored 3 (.int .i64 x))
theorem Prc.listed {fin:List Co} {A':Option Addr} {c':Nat} (h:Prc gp gc gw gb gr gx W s w wr nm ⟨#[]⟩ ⟨#[]⟩ 100 none 0 []) (hP:PAt gp gc gw W s' w8) (hL:ProOwn (gx+1) gx w8 nm A' c' fin) (hB:But (On3 gp gc gx (gx+1)) wr w8):Prc gp gc gw gb gr gx W s' w w8 nm ⟨#[]⟩ ⟨#[]⟩ 100 A' c' fin:=by
 have hn:=h.ne
 refine⟨hP,h.b.trans hB (fun i hi=>?_),h.kb.as_was (hB.block _ h.kb.lt ?_),h.kr.as_was (hB.block _ h.kr.lt ?_),hL.blk,LsAt.conv hL.list (Kept.refl _ _) (fun a _ _ h=>h) (fun r x _ hx=>hx),hn⟩
 ·rcases hi with e|e|e|e
  ·exact .inl (.inl e)
  ·exact .inl (.inr e)
  ·exact .inr (by omega)
  ·exact .inr (by omega)
 ·rintro(e|e|e|e)<;>omega
 ·rintro(e|e|e|e)<;>omega
end
theorem Prc.out {gp gc gw gb gr gx:Nat} {W:Wds} {s s':PSt} {w wr w8:World} {nm src part:ByteArray} {fu:Int} {A:Option Addr} {c:Nat} {ps:List Co} {D:Nat} {Ab:Option Addr} {nb cb:Nat} {bl:List St}
  (h:Prc gp gc gw gb gr gx W s w wr nm src part fu A c ps) (hok:okS nm∧okS src∧okS part∧okI fu) (hx:StsAt (Fr wr) D w8 Ab nb cb bl) (hP:PAt gp gc gw W s' w8) (hB:But (On2 gp gc) wr w8) :
  IsBlk w8 gx 36 #[.string nm,.string src,.string part,.int .i64 fu,.slice A ps.length c,.slice none 0 0] ∧
  IsBlk (w8.setCell ⟨gx,5,none⟩ (.slice Ab nb cb)) gx 36 #[.string nm,.string src,.string part,.int .i64 fu,.slice A ps.length c,.slice Ab nb cb] ∧
  IsBlk (w8.setCell ⟨gx,5,none⟩ (.slice Ab nb cb)) gr 36 zeroP ∧
  IsBlk (lay6 (w8.setCell ⟨gx,5,none⟩ (.slice Ab nb cb)) gr (.string nm) (.string src) (.string part) (.int .i64 fu) (.slice A ps.length c) (.slice Ab nb cb)) gr 36 #[.string nm,.string src,.string part,.int .i64 fu,.slice A ps.length c,.slice Ab nb cb] ∧
  GivesP gp gc gw W s' ⟨nm,src,part,fu,ps,bl⟩ w (.returned (.agg #[.string nm,.string src,.string part,.int .i64 fu,.slice A ps.length c,.slice Ab nb cb])) (lay6 (w8.setCell ⟨gx,5,none⟩ (.slice Ab nb cb)) gr (.string nm) (.string src) (.string part) (.int .i64 fu) (.slice A ps.length c) (.slice Ab nb cb)):=by
 have hn:=h.ne
 have h8:=h.on2 hP hB
 have hgx:=h.kx.lt
 have hb5:=(But.refl (fun k=>k=gx) w8).setCell (p:=⟨gx,5,none⟩) (.inl rfl) (.slice Ab nb cb)
 have hk5:IsBlk (w8.setCell ⟨gx,5,none⟩ (.slice Ab nb cb)) gx 36 #[.string nm,.string src,.string part,.int .i64 fu,.slice A ps.length c,.slice Ab nb cb]:=h8.kx.stored 5 _
 have hk4:=h8.kr.as_was (hb5.block _ h8.kr.lt (by omega))
 have hls:=LsAt.kept h8.ls (Kept.of_but hb5 fun k hk e=>by omega)
 have hxs:=StsAt.kept hx (Kept.of_but hb5 fun k (hk:wr.heap.size≤k) e=>by omega)
 have hP5:=hP.elsewhere hb5 (by omega)
 have hB5:=h8.b.trans hb5 (fun i hi=>.inr (by omega))
 generalize w8.setCell ⟨gx,5,none⟩ (.slice Ab nb cb)=w5 at *
 have hb7:=lay6_but w5 gr (.string nm) (.string src) (.string part) (.int .i64 fu) (.slice A ps.length c) (.slice Ab nb cb)
 refine⟨h8.kx,hk5,hk4,lay6_blk _ _ _ _ _ _ hk4,_,D,rfl,⟨hok.1,hok.2.1,hok.2.2.1,hok.2.2.2,A,ps.length,c,Ab,nb,cb,rfl,?_,?_⟩,hP5.elsewhere hb7 (by omega),hB5.trans hb7 (fun i hi=>.inr (by omega))⟩
 ·exact LsAt.conv hls (Kept.of_but hb7 fun k hk e=>by omega) (fun a _ _ h=>by show w.heap.size≤_;omega) (fun r x _ hx=>hx)
 ·exact StsAt.conv (fun k (hk:wr.heap.size≤k)=>by show w.heap.size≤k;omega) (Kept.of_but hb7 fun k (hk:wr.heap.size≤k) e=>by omega) (Nat.le_refl D) hxs
open Go.RowKit Go.Afx
theorem sizePr:(Tryz.prog.info? 36).map (·.size)=some 6:=by kernel_rfl
theorem ret_pr {fn:Func} {p:Tmp} {tmps:Array Value} {w:World} {g:Nat} {t:TypeId} {cs:Array Value} (h:fn.results=#[.cell p 36]) (hp:tmps.getD p undef=.pointer (some ⟨g,0,none⟩)) (hk:IsBlk w g t cs) (hz:cs.size=6):(results fn tmps).run Tryz.prog w=.ok (.agg cs) w :=
 results_cell_row h tmps w g t cs (0,0) _ hp hk Tryz.underlying36 rfl (by rw[hz];exact sizePr)
theorem from_ok {gp gc gw:Nat} {W:Wds} {s:PSt} {w:World} (h:PAt gp gc gw W s w) (s':PSt):okS (fromP W s').1.1∧okS (fromP W s').1.2:=by
 unfold fromP
 split
 ·exact⟨okS_0,name_ok h _⟩
 ·split
  ·exact⟨name_ok h _,okS_0⟩
  ·exact⟨okS_0,okS_0⟩
theorem fuel_ok {gp gc gw:Nat} {W:Wds} {s:PSt} {w:World} (h:PAt gp gc gw W s w) (s':PSt):okI (fuelP W s').1:=by
 rw[fuelP_eq]
 split
 ·have h1:=num_ok h (mayP W (str [102,117,101,108]) s').2
  generalize (numP W (mayP W (str [102,117,101,108]) s').2).1=n at *
  obtain⟨h2,h3⟩:=h1
  constructor
  ·show _≤min n 2001;omega
  ·show min n 2001≤_;omega
 ·constructor<;>simp
theorem pProc_any (gp gc gw:Nat) (W:Wds) (hW:W.l.length≤1000000) (s:PSt) (w:World) (h:PAt gp gc gw W s w):Calls Tryz.prog 75 #[.pointer (some ⟨gp,0,none⟩)] w (GivesP gp gc gw W (procP W s).2 (procP W s).1 w):=by
 have hz:=And.intro h.lt.1 (And.intro h.lt.2 h.wl)
 obtain⟨w1,Hw1⟩:∃ w1,Hid (w1=(w.alloc (.cells #[.pointer (some ⟨gp,0,none⟩)] 98)).alloc (.cells zeroP 36)):=⟨_,rfl⟩
 have hb1:Below w.heap.size w w1:=by rw[Hw1.out];exact((Below.refl _ _).alloc (Nat.le_refl _) _).alloc (by simp) _
 have hkb:IsBlk w1 w.heap.size 98 #[.pointer (some ⟨gp,0,none⟩)]:=by rw[Hw1.out];exact(IsBlk.laid _ _ _).alloc _
 have hkr:IsBlk w1 (w.heap.size+1) 36 zeroP:=by rw[Hw1.out];exact blk_new (by simp)
 have hsz:w1.heap.size=w.heap.size+2:=by rw[Hw1.out];simp
 have hm1:=pMust_any gp gc gw w1.heap.size W s (str [112,114,111,99]) w1 (h.below hb1) rfl
 have hmo:=fun g (t:ByteArray) s' w2 (hW:PAt gp gc gw W s' w2) (hg:g=w2.heap.size)=>pMust_any gp gc gw g W s' t w2 hW hg
 have hma:=fun (t:ByteArray) s' w2 (hW:PAt gp gc gw W s' w2)=>pMay_any gp gc gw W s' t w2 hW
 have hna:=fun s' w2 (hW:PAt gp gc gw W s' w2)=>pName_any gp gc gw W s' w2 hW
 rw[procP_eq]
 generalize mustP W [str [112,114,111,99]] s=sm at *
 simp only[str] at hm1
 have hn1:=fun w2 (hW:PAt gp gc gw W sm w2)=>pName_any gp gc gw W sm w2 hW
 have hokn:=name_ok h sm
 generalize nameP W sm=a at *
 obtain⟨nm,sa⟩:=a
 simp only at hn1 hokn ⊢
 have hm2:=fun g w2 (hW:PAt gp gc gw W sa w2) (hg:g=w2.heap.size)=>pMust_any gp gc gw g W sa (str [40]) w2 hW hg
 generalize mustP W [str [40]] sa=sp at *
 simp only[str] at hm2
 have hen:=fun w2 (hW:PAt gp gc gw W sp w2)=>pEnter_any gp gc gw W sp w2 hW
 generalize enterP sp=se at *
 have his:=fun g w2 (hW:PAt gp gc gw W se w2) (hg:g=w2.heap.size)=>pIs_any hW (str [41]) g hg
 have hhd:headP W se=if isP W se (str [41]) then ([],se) else list1 W (paramP W) se:=rfl
 have hli:=fun gl gb n0 w2 (hW:PAt gp gc gw W se w2)=>pList_params gp gc gw gl gb n0 W se w2 nm hW
 generalize isP W se (str [41])=q at *
 simp only[str] at his
 generalize list1 W (paramP W) se=l1 at *
 generalize headP W se=hd at *
 obtain⟨ps,sl⟩:=hd
 simp only at hhd ⊢
 have hm3:=fun g w2 (hW:PAt gp gc gw W sl w2) (hg:g=w2.heap.size)=>pMust_any gp gc gw g W sl (str [41]) w2 hW hg
 generalize mustP W [str [41]] sl=sr at *
 simp only[str] at hm3
 have hle:=fun w2 (hW:PAt gp gc gw W sr w2)=>pLeave_any gp gc gw W sr w2 hW
 generalize leaveP sr=s2 at *
 have hfr:fromP W s2=if (mayP W (str [111,110]) s2).1 then ((nil0,(nameP W (mayP W (str [111,110]) s2).2).1),(nameP W (mayP W (str [111,110]) s2).2).2) else if (mayP W (str [102,114,111,109]) s2).1 then (((nameP W (mayP W (str [102,114,111,109]) s2).2).1,nil0),(nameP W (mayP W (str [102,114,111,109]) s2).2).2) else ((nil0,nil0),s2):=rfl
 have hokf:=from_ok h s2
 generalize fromP W s2=fr at *
 obtain⟨⟨src,part⟩,s3⟩:=fr
 simp only at hfr hokf ⊢
 have hfu:=fuelP_eq W s3
 have hoku:=fuel_ok h s3
 generalize fuelP W s3=fu at *
 obtain⟨fu,s4⟩:=fu
 simp only at hfu hoku ⊢
 have hbl:=fun w2 (hP:PAt gp gc gw W s4 w2)=>pBlock1_any gp gc gw W hW s4 w2 hP
 generalize block1 W s4=b at *
 obtain⟨bl,sb⟩:=b
 simp only at hbl ⊢
 have Hz:=Lhd hz
 have Hb1:=Lhd hb1
 have Hkb:=Lhd hkb
 have Hkr:=Lhd hkr
 have Hsz:=Lhd hsz
 have Hm1:=Lhd hm1
 have Hma:=Lhd hma
 have Hna:=Lhd hna
 have Hn1:=Lhd hn1
 have Hok:=Lhd (And.intro hokn (And.intro hokf.1 (And.intro hokf.2 hoku)))
 have Hm2:=Lhd hm2
 have Hen:=Lhd hen
 have His:=Lhd his
 have Hhd:=Lhd hhd
 have Hli:=Lhd hli
 have Hm3:=Lhd hm3
 have Hle:=Lhd hle
 have Hfr:=Lhd hfr
 have Hfu:=Lhd hfu
 have Hbl:=Lhd hbl
 have d0:w1.cell? ⟨w.heap.size,0,none⟩=some (.pointer (some ⟨gp,0,none⟩)):=by have:=hkb.cell 0;simpa using this
 have dl:=hkb.lt
 have Hnu:=Lhd (fun s' w2 (hW:PAt gp gc gw W s' w2)=>pNumber_any gp gc gw W s' w2 hW)
 clear hz hb1 hkb hkr hsz hm1 hma hna hn1 hokn hokf hoku hm2 hen his hhd hli hm3 hle hfr hfu hbl hmo h hW
 go_enter Tryz.func75,Tryz.ntmps75
 go_upto_region 1 with (fail)
 rw[← Hw1.out]
 go_wp2_with (fail)
 refine Hm1.out.mono ?_
 rintro e w2 ⟨rfl,hP,hB⟩
 have hz:=Hz.out
 have hkb2:=on2_blk Hkb.out hB (by omega)
 have hkr2:=on2_blk Hkr.out hB (by omega)
 have hs2:=hB.size
 clear d0 dl
 have d0:w2.cell? ⟨w.heap.size,0,none⟩=some (.pointer (some ⟨gp,0,none⟩)):=by have:=hkb2.cell 0;simpa using this
 have dl:=hkb2.lt
 have H2:=Lhd (And.intro hP (And.intro ((But.of_below Hb1.out).trans' hB) (And.intro hkb2 (And.intro hkr2 hs2))))
 clear hP hB hkb2 hkr2 hz hs2
 go_wp2_with (fail)
 refine(Hn1.out _ H2.out.1).mono ?_
 rintro e w3 ⟨rfl,hP,hB⟩
 have hz:=Hz.out
 have hs1:=Hsz.out
 have hs2:=H2.out.2.2.2.2
 have hs3:=hB.size
 have hkb3:=on2_blk H2.out.2.2.1 hB (by omega)
 have hkr3:=on2_blk H2.out.2.2.2.1 hB (by omega)
 have hal:=(Below.refl w3.heap.size w3).alloc (Nat.le_refl _) (.cells #[.string nm,.string ⟨#[]⟩,.string ⟨#[]⟩,.int .i64 100,.slice none 0 0,.slice none 0 0] 36)
 have hT:Prc gp gc gw w.heap.size (w.heap.size+1) w3.heap.size W sa w (w3.alloc (.cells #[.string nm,.string ⟨#[]⟩,.string ⟨#[]⟩,.int .i64 100,.slice none 0 0,.slice none 0 0] 36)) nm ⟨#[]⟩ ⟨#[]⟩ 100 none 0 [] :=
  ⟨hP.below hal,(H2.out.2.1.trans' hB).trans' (But.of_below hal),hkb3.alloc _,hkr3.alloc _,IsBlk.laid _ _ _,LsAt.nil_ _ _ _ _,by omega⟩
 obtain⟨gx,Hgx⟩:∃ gx,Hid (gx=w3.heap.size):=⟨_,rfl⟩
 obtain⟨w4,Hw4⟩:∃ w4,Hid (w4=w3.alloc (.cells #[.string nm,.string ⟨#[]⟩,.string ⟨#[]⟩,.int .i64 100,.slice none 0 0,.slice none 0 0] 36)):=⟨_,rfl⟩
 rw[← Hgx.out,← Hw4.out] at hT
 obtain⟨gr,Hgr⟩:∃ gr,Hid (gr=w.heap.size+1):=⟨_,rfl⟩
 rw[← Hgr.out] at hT
 clear d0 dl
 have d0:w3.cell? ⟨w.heap.size,0,none⟩=some (.pointer (some ⟨gp,0,none⟩)):=by have:=hkb3.cell 0;simpa using this
 have dl:=hkb3.lt
 have HT:=Lhd hT
 clear hP hB hz hs1 hs2 hs3 hkb3 hkr3 hal hT
 go_upto_region 3 with (fail)
 rw[← Hw4.out,← Hgx.out]
 clear d0 dl
 have d0:w4.cell? ⟨w.heap.size,0,none⟩=some (.pointer (some ⟨gp,0,none⟩)):=by have:=HT.out.kb.cell 0;simpa using this
 have dl:=HT.out.kb.lt
 go_wp2_with (fail)
 refine(Hm2.out _ _ HT.out.p rfl).mono ?_
 rintro e w5 ⟨rfl,hP,hB⟩
 have HT5:=Lhd (HT.out.on2 hP hB)
 clear hP hB d0 dl
 have d0:w5.cell? ⟨w.heap.size,0,none⟩=some (.pointer (some ⟨gp,0,none⟩)):=by have:=HT5.out.kb.cell 0;simpa using this
 have dl:=HT5.out.kb.lt
 go_wp2_with (fail)
 refine(Hen.out _ HT5.out.p).mono ?_
 rintro e w6 ⟨rfl,hP,hB⟩
 have HT6:=Lhd (HT5.out.on2 hP hB)
 clear hP hB d0 dl
 have d0:w6.cell? ⟨w.heap.size,0,none⟩=some (.pointer (some ⟨gp,0,none⟩)):=by have:=HT6.out.kb.cell 0;simpa using this
 have dl:=HT6.out.kb.lt
 obtain⟨e0,e1,e2,e3,el⟩:=cells4 HT6.out.p.blk
 go_wp2_with (fail)
 refine(His.out _ _ HT6.out.p rfl).mono ?_
 rintro e w7 ⟨rfl,hP,hB⟩
 have HT7:=Lhd (HT6.out.on2 hP (But.of_below hB))
 clear hP hB d0 dl e0 e1 e2 e3 el
 go_upto_if 21 with (fail)
 go_cut [] (fun wr=>∃ A c,Prc gp gc gw w.heap.size gr gx W sl w wr nm ⟨#[]⟩ ⟨#[]⟩ 100 A c ps)
 case first =>
  cases q with
  | true =>
   have hh:(ps,sl)=([],se):=Hhd.out
   simp only[Prod.mk.injEq] at hh
   obtain⟨rfl,rfl⟩:=hh
   go_wp2
   go_meet
   exact⟨none,0,HT7.out⟩
  | false =>
   have hh:(ps,sl)=l1:=Hhd.out
   subst hh
   have d0:w7.cell? ⟨w.heap.size,0,none⟩=some (.pointer (some ⟨gp,0,none⟩)):=by have:=HT7.out.kb.cell 0;simpa using this
   have dl:=HT7.out.kb.lt
   have hne:=HT7.out.ne
   have hgl:=HT7.out.kx.lt
   have hl:=Hli.out gx w.heap.size (gx+1) _ HT7.out.p ⟨HT7.out.kx,World.ownsRow_nil _ _ _ _,by simp⟩ HT7.out.kb (by omega) (by omega) (by omega)
   have Hl:=Lhd hl
   clear hne hgl hl
   go_wp2_with (fail)
   refine Hl.out.mono ?_
   rintro e w8 ⟨rfl,hP,⟨A,c,hL⟩,hB⟩
   have HT8:=Lhd (HT7.out.listed hP hL hB)
   clear hP hL hB d0 dl
   go_wp2
   go_meet
   exact⟨A,c,HT8.out⟩
 case rest =>
  obtain⟨A,c,hT⟩:=hcut
  have d0:wc.cell? ⟨w.heap.size,0,none⟩=some (.pointer (some ⟨gp,0,none⟩)):=by have:=hT.kb.cell 0;simpa using this
  have dl:=hT.kb.lt
  have HT8:=Lhd hT
  clear hT
  go_wp2_with (fail)
  refine(Hm3.out _ _ HT8.out.p rfl).mono ?_
  rintro e w9 ⟨rfl,hP,hB⟩
  have HT9:=Lhd (HT8.out.on2 hP hB)
  clear hP hB d0 dl
  have d0:w9.cell? ⟨w.heap.size,0,none⟩=some (.pointer (some ⟨gp,0,none⟩)):=by have:=HT9.out.kb.cell 0;simpa using this
  have dl:=HT9.out.kb.lt
  go_wp2_with (fail)
  refine(Hle.out _ HT9.out.p).mono ?_
  rintro e w10 ⟨rfl,hP,hB⟩
  have HT10:=Lhd (HT9.out.on2 hP hB)
  clear hP hB d0 dl
  have d0:w10.cell? ⟨w.heap.size,0,none⟩=some (.pointer (some ⟨gp,0,none⟩)):=by have:=HT10.out.kb.cell 0;simpa using this
  have dl:=HT10.out.kb.lt
  have hfr:=Hfr.out
  rcases may_cases W (str [111,110]) s2 with ho|⟨ho,_,_⟩
  ·have hm:=Hma.out (str [111,110]) s2 w10 HT10.out.p
   rw[ho] at hm hfr
   simp only[Bool.false_eq_true,if_false] at hfr
   simp only[str] at hm
   have Hm:=Lhd hm
   clear hm ho
   go_wp2_with (fail)
   refine Hm.out.mono ?_
   rintro e w11 ⟨rfl,hP,hB⟩
   have HT11:=Lhd (HT10.out.on2 hP hB)
   clear hP hB d0 dl
   have d0:w11.cell? ⟨w.heap.size,0,none⟩=some (.pointer (some ⟨gp,0,none⟩)):=by have:=HT11.out.kb.cell 0;simpa using this
   have dl:=HT11.out.kb.lt
   rcases may_cases W (str [102,114,111,109]) s2 with hf|⟨hf,_,_⟩
   ·have hm:=Hma.out (str [102,114,111,109]) s2 w11 HT11.out.p
    rw[hf] at hm hfr
    simp only[Bool.false_eq_true,if_false,Prod.mk.injEq] at hfr
    obtain⟨⟨rfl,rfl⟩,rfl⟩:=hfr
    simp only[str] at hm
    have Hm:=Lhd hm
    clear hm hf
    go_wp2_with (fail)
    refine Hm.out.mono ?_
    rintro e w12 ⟨rfl,hP,hB⟩
    have HT12:=Lhd (HT11.out.on2 hP hB)
    clear hP hB d0 dl
    go_upto_region 13 with (fail)
    have hfu:=Hfu.out
    rcases may_cases W (str [102,117,101,108]) s3 with hc|⟨hc,_,_⟩
    ·have hm:=Hma.out (str [102,117,101,108]) s3 w12 HT12.out.p
     rw[hc] at hm hfu
     simp only[Bool.false_eq_true,if_false,Prod.mk.injEq] at hfu
     obtain⟨rfl,rfl⟩:=hfu
     simp only[str] at hm
     have Hm:=Lhd hm
     clear hm hc
     have d0:w12.cell? ⟨w.heap.size,0,none⟩=some (.pointer (some ⟨gp,0,none⟩)):=by have:=HT12.out.kb.cell 0;simpa using this
     have dl:=HT12.out.kb.lt
     go_wp2_with (fail)
     refine Hm.out.mono ?_
     rintro e w20 ⟨rfl,hP,hB⟩
     have HT20:=Lhd (HT12.out.on2 hP hB)
     clear hP hB d0 dl
     have d0:w20.cell? ⟨w.heap.size,0,none⟩=some (.pointer (some ⟨gp,0,none⟩)):=by have:=HT20.out.kb.cell 0;simpa using this
     have dl:=HT20.out.kb.lt
     go_wp2_with (fail)
     refine(Hbl.out _ HT20.out.p).mono ?_
     rintro e w30 ⟨Ab,nb,cb,D,rfl,hx,hP,hB⟩
     obtain⟨hx0,hx1,hr1,hr2,hg⟩:=HT20.out.out Hok.out hx hP hB
     rw[Hgr.out] at hr1 hr2 hg
     obtain⟨x0,x1,x2,x3,x4,x5,xl⟩:=cells6 hx0
     have fx:=hx0.frozen
     obtain⟨w31,Hw31⟩:∃ w31,Hid (w31=w30.setCell ⟨gx,5,none⟩ (.slice Ab nb cb)):=⟨_,rfl⟩
     have Hout:=Lhd (And.intro hx1 (And.intro hr1 (And.intro hr2 hg)))
     clear hx hP hB hx0 hx1 hr1 hr2 hg d0 dl
     go_upto_region 16 with (fail)
     rw[← Hw31.out]
     clear x0 x1 x2 x3 x4 x5 xl fx
     rw[← Hw31.out] at Hout
     obtain⟨x0,x1,x2,x3,x4,x5,xl⟩:=cells6 Hout.out.1
     obtain⟨y0,y1,y2,y3,y4,y5,yl⟩:=cells6 Hout.out.2.1
     have fy:=Hout.out.2.1.frozen
     go_wp2
     rw[lay6_eq]
     exact bodyPost_ret (ret_pr Tryz.results75 rfl Hout.out.2.2.1 rfl) rfl Hout.out.2.2.2
    ·have hm:=Hma.out (str [102,117,101,108]) s3 w12 HT12.out.p
     rw[hc] at hm hfu
     simp only[if_true] at hfu
     simp only[str] at hm
     have hn:=fun w2 (hW:PAt gp gc gw W s3.on w2)=>Hnu.out s3.on w2 hW
     generalize numP W s3.on=r at *
     obtain⟨rn,rs⟩:=r
     simp only[Prod.mk.injEq] at hfu hn
     obtain⟨rfl,rfl⟩:=hfu
     have Hm:=Lhd hm
     have Hn:=Lhd hn
     clear hm hc hn
     have d0:w12.cell? ⟨w.heap.size,0,none⟩=some (.pointer (some ⟨gp,0,none⟩)):=by have:=HT12.out.kb.cell 0;simpa using this
     have dl:=HT12.out.kb.lt
     go_wp2_with (fail)
     refine Hm.out.mono ?_
     rintro e w20 ⟨rfl,hP,hB⟩
     have HT20:=Lhd (HT12.out.on2 hP hB)
     clear hP hB d0 dl
     have d0:w20.cell? ⟨w.heap.size,0,none⟩=some (.pointer (some ⟨gp,0,none⟩)):=by have:=HT20.out.kb.cell 0;simpa using this
     have dl:=HT20.out.kb.lt
     go_wp2_with (fail)
     refine(Hn.out _ HT20.out.p).mono ?_
     rintro e w21 ⟨rfl,hP,hB⟩
     have hT21:=HT20.out.on2 hP hB
     have hT22:=hT21.fuel_ (min rn 2001)
     obtain⟨x0,x1,x2,x3,x4,x5,xl⟩:=cells6 hT21.kx
     have fx:=hT21.kx.frozen
     obtain⟨w22,Hw22⟩:∃ w22,Hid (w22=w21.setCell ⟨gx,3,none⟩ (.int .i64 (min rn 2001))):=⟨_,rfl⟩
     rw[← Hw22.out] at hT22
     have HT22:=Lhd hT22
     clear hP hB d0 dl hT21 hT22
     go_upto_region 15 with (fail)
     rw[← Hw22.out]
     clear x0 x1 x2 x3 x4 x5 xl fx
     have d0:w22.cell? ⟨w.heap.size,0,none⟩=some (.pointer (some ⟨gp,0,none⟩)):=by have:=HT22.out.kb.cell 0;simpa using this
     have dl:=HT22.out.kb.lt
     go_wp2_with (fail)
     refine(Hbl.out _ HT22.out.p).mono ?_
     rintro e w30 ⟨Ab,nb,cb,D,rfl,hx,hP,hB⟩
     obtain⟨hx0,hx1,hr1,hr2,hg⟩:=HT22.out.out Hok.out hx hP hB
     rw[Hgr.out] at hr1 hr2 hg
     obtain⟨x0,x1,x2,x3,x4,x5,xl⟩:=cells6 hx0
     have fx:=hx0.frozen
     obtain⟨w31,Hw31⟩:∃ w31,Hid (w31=w30.setCell ⟨gx,5,none⟩ (.slice Ab nb cb)):=⟨_,rfl⟩
     have Hout:=Lhd (And.intro hx1 (And.intro hr1 (And.intro hr2 hg)))
     clear hx hP hB hx0 hx1 hr1 hr2 hg d0 dl
     go_upto_region 16 with (fail)
     rw[← Hw31.out]
     clear x0 x1 x2 x3 x4 x5 xl fx
     rw[← Hw31.out] at Hout
     obtain⟨x0,x1,x2,x3,x4,x5,xl⟩:=cells6 Hout.out.1
     obtain⟨y0,y1,y2,y3,y4,y5,yl⟩:=cells6 Hout.out.2.1
     have fy:=Hout.out.2.1.frozen
     go_wp2
     rw[lay6_eq]
     exact bodyPost_ret (ret_pr Tryz.results75 rfl Hout.out.2.2.1 rfl) rfl Hout.out.2.2.2
   ·have hm:=Hma.out (str [102,114,111,109]) s2 w11 HT11.out.p
    rw[hf] at hm hfr
    simp only[if_true] at hfr
    simp only[str] at hm
    have hn:=fun w2 (hW:PAt gp gc gw W s2.on w2)=>Hna.out s2.on w2 hW
    generalize nameP W s2.on=r at *
    obtain⟨rn,rs⟩:=r
    simp only[Prod.mk.injEq] at hfr hn
    obtain⟨⟨rfl,rfl⟩,rfl⟩:=hfr
    have Hm:=Lhd hm
    have Hn:=Lhd hn
    clear hm hf hn
    go_wp2_with (fail)
    refine Hm.out.mono ?_
    rintro e w11 ⟨rfl,hP,hB⟩
    have HT11:=Lhd (HT11.out.on2 hP hB)
    clear hP hB d0 dl
    have d0:w11.cell? ⟨w.heap.size,0,none⟩=some (.pointer (some ⟨gp,0,none⟩)):=by have:=HT11.out.kb.cell 0;simpa using this
    have dl:=HT11.out.kb.lt
    go_wp2_with (fail)
    refine(Hn.out _ HT11.out.p).mono ?_
    rintro e w12 ⟨rfl,hP,hB⟩
    have hT12:=HT11.out.on2 hP hB
    have hT13:=hT12.src_ src
    obtain⟨x0,x1,x2,x3,x4,x5,xl⟩:=cells6 hT12.kx
    have fx:=hT12.kx.frozen
    obtain⟨w13,Hw13⟩:∃ w13,Hid (w13=w12.setCell ⟨gx,1,none⟩ (.string src)):=⟨_,rfl⟩
    rw[← Hw13.out] at hT13
    have HT13:=Lhd hT13
    clear hP hB d0 dl hT12 hT13
    go_upto_region 13 with (fail)
    rw[← Hw13.out]
    clear x0 x1 x2 x3 x4 x5 xl fx
    have hfu:=Hfu.out
    rcases may_cases W (str [102,117,101,108]) s3 with hc|⟨hc,_,_⟩
    ·have hm:=Hma.out (str [102,117,101,108]) s3 w13 HT13.out.p
     rw[hc] at hm hfu
     simp only[Bool.false_eq_true,if_false,Prod.mk.injEq] at hfu
     obtain⟨rfl,rfl⟩:=hfu
     simp only[str] at hm
     have Hm:=Lhd hm
     clear hm hc
     have d0:w13.cell? ⟨w.heap.size,0,none⟩=some (.pointer (some ⟨gp,0,none⟩)):=by have:=HT13.out.kb.cell 0;simpa using this
     have dl:=HT13.out.kb.lt
     go_wp2_with (fail)
     refine Hm.out.mono ?_
     rintro e w20 ⟨rfl,hP,hB⟩
     have HT20:=Lhd (HT13.out.on2 hP hB)
     clear hP hB d0 dl
     have d0:w20.cell? ⟨w.heap.size,0,none⟩=some (.pointer (some ⟨gp,0,none⟩)):=by have:=HT20.out.kb.cell 0;simpa using this
     have dl:=HT20.out.kb.lt
     go_wp2_with (fail)
     refine(Hbl.out _ HT20.out.p).mono ?_
     rintro e w30 ⟨Ab,nb,cb,D,rfl,hx,hP,hB⟩
     obtain⟨hx0,hx1,hr1,hr2,hg⟩:=HT20.out.out Hok.out hx hP hB
     rw[Hgr.out] at hr1 hr2 hg
     obtain⟨x0,x1,x2,x3,x4,x5,xl⟩:=cells6 hx0
     have fx:=hx0.frozen
     obtain⟨w31,Hw31⟩:∃ w31,Hid (w31=w30.setCell ⟨gx,5,none⟩ (.slice Ab nb cb)):=⟨_,rfl⟩
     have Hout:=Lhd (And.intro hx1 (And.intro hr1 (And.intro hr2 hg)))
     clear hx hP hB hx0 hx1 hr1 hr2 hg d0 dl
     go_upto_region 16 with (fail)
     rw[← Hw31.out]
     clear x0 x1 x2 x3 x4 x5 xl fx
     rw[← Hw31.out] at Hout
     obtain⟨x0,x1,x2,x3,x4,x5,xl⟩:=cells6 Hout.out.1
     obtain⟨y0,y1,y2,y3,y4,y5,yl⟩:=cells6 Hout.out.2.1
     have fy:=Hout.out.2.1.frozen
     go_wp2
     rw[lay6_eq]
     exact bodyPost_ret (ret_pr Tryz.results75 rfl Hout.out.2.2.1 rfl) rfl Hout.out.2.2.2
    ·have hm:=Hma.out (str [102,117,101,108]) s3 w13 HT13.out.p
     rw[hc] at hm hfu
     simp only[if_true] at hfu
     simp only[str] at hm
     have hn:=fun w2 (hW:PAt gp gc gw W s3.on w2)=>Hnu.out s3.on w2 hW
     generalize numP W s3.on=r at *
     obtain⟨rn,rs⟩:=r
     simp only[Prod.mk.injEq] at hfu hn
     obtain⟨rfl,rfl⟩:=hfu
     have Hm:=Lhd hm
     have Hn:=Lhd hn
     clear hm hc hn
     have d0:w13.cell? ⟨w.heap.size,0,none⟩=some (.pointer (some ⟨gp,0,none⟩)):=by have:=HT13.out.kb.cell 0;simpa using this
     have dl:=HT13.out.kb.lt
     go_wp2_with (fail)
     refine Hm.out.mono ?_
     rintro e w20 ⟨rfl,hP,hB⟩
     have HT20:=Lhd (HT13.out.on2 hP hB)
     clear hP hB d0 dl
     have d0:w20.cell? ⟨w.heap.size,0,none⟩=some (.pointer (some ⟨gp,0,none⟩)):=by have:=HT20.out.kb.cell 0;simpa using this
     have dl:=HT20.out.kb.lt
     go_wp2_with (fail)
     refine(Hn.out _ HT20.out.p).mono ?_
     rintro e w21 ⟨rfl,hP,hB⟩
     have hT21:=HT20.out.on2 hP hB
     have hT22:=hT21.fuel_ (min rn 2001)
     obtain⟨x0,x1,x2,x3,x4,x5,xl⟩:=cells6 hT21.kx
     have fx:=hT21.kx.frozen
     obtain⟨w22,Hw22⟩:∃ w22,Hid (w22=w21.setCell ⟨gx,3,none⟩ (.int .i64 (min rn 2001))):=⟨_,rfl⟩
     rw[← Hw22.out] at hT22
     have HT22:=Lhd hT22
     clear hP hB d0 dl hT21 hT22
     go_upto_region 15 with (fail)
     rw[← Hw22.out]
     clear x0 x1 x2 x3 x4 x5 xl fx
     have d0:w22.cell? ⟨w.heap.size,0,none⟩=some (.pointer (some ⟨gp,0,none⟩)):=by have:=HT22.out.kb.cell 0;simpa using this
     have dl:=HT22.out.kb.lt
     go_wp2_with (fail)
     refine(Hbl.out _ HT22.out.p).mono ?_
     rintro e w30 ⟨Ab,nb,cb,D,rfl,hx,hP,hB⟩
     obtain⟨hx0,hx1,hr1,hr2,hg⟩:=HT22.out.out Hok.out hx hP hB
     rw[Hgr.out] at hr1 hr2 hg
     obtain⟨x0,x1,x2,x3,x4,x5,xl⟩:=cells6 hx0
     have fx:=hx0.frozen
     obtain⟨w31,Hw31⟩:∃ w31,Hid (w31=w30.setCell ⟨gx,5,none⟩ (.slice Ab nb cb)):=⟨_,rfl⟩
     have Hout:=Lhd (And.intro hx1 (And.intro hr1 (And.intro hr2 hg)))
     clear hx hP hB hx0 hx1 hr1 hr2 hg d0 dl
     go_upto_region 16 with (fail)
     rw[← Hw31.out]
     clear x0 x1 x2 x3 x4 x5 xl fx
     rw[← Hw31.out] at Hout
     obtain⟨x0,x1,x2,x3,x4,x5,xl⟩:=cells6 Hout.out.1
     obtain⟨y0,y1,y2,y3,y4,y5,yl⟩:=cells6 Hout.out.2.1
     have fy:=Hout.out.2.1.frozen
     go_wp2
     rw[lay6_eq]
     exact bodyPost_ret (ret_pr Tryz.results75 rfl Hout.out.2.2.1 rfl) rfl Hout.out.2.2.2
  ·have hm:=Hma.out (str [111,110]) s2 w10 HT10.out.p
   rw[ho] at hm hfr
   simp only[if_true] at hfr
   simp only[str] at hm
   have hn:=fun w2 (hW:PAt gp gc gw W s2.on w2)=>Hna.out s2.on w2 hW
   generalize nameP W s2.on=r at *
   obtain⟨rn,rs⟩:=r
   simp only[Prod.mk.injEq] at hfr hn
   obtain⟨⟨rfl,rfl⟩,rfl⟩:=hfr
   have Hm:=Lhd hm
   have Hn:=Lhd hn
   clear hm ho hn
   go_wp2_with (fail)
   refine Hm.out.mono ?_
   rintro e w11 ⟨rfl,hP,hB⟩
   have HT11:=Lhd (HT10.out.on2 hP hB)
   clear hP hB d0 dl
   have d0:w11.cell? ⟨w.heap.size,0,none⟩=some (.pointer (some ⟨gp,0,none⟩)):=by have:=HT11.out.kb.cell 0;simpa using this
   have dl:=HT11.out.kb.lt
   go_wp2_with (fail)
   refine(Hn.out _ HT11.out.p).mono ?_
   rintro e w12 ⟨rfl,hP,hB⟩
   have hT12:=HT11.out.on2 hP hB
   have hT13:=hT12.part_ part
   obtain⟨x0,x1,x2,x3,x4,x5,xl⟩:=cells6 hT12.kx
   have fx:=hT12.kx.frozen
   obtain⟨w13,Hw13⟩:∃ w13,Hid (w13=w12.setCell ⟨gx,2,none⟩ (.string part)):=⟨_,rfl⟩
   rw[← Hw13.out] at hT13
   have HT13:=Lhd hT13
   clear hP hB d0 dl hT12 hT13
   go_upto_region 13 with (fail)
   rw[← Hw13.out]
   clear x0 x1 x2 x3 x4 x5 xl fx
   have hfu:=Hfu.out
   rcases may_cases W (str [102,117,101,108]) s3 with hc|⟨hc,_,_⟩
   ·have hm:=Hma.out (str [102,117,101,108]) s3 w13 HT13.out.p
    rw[hc] at hm hfu
    simp only[Bool.false_eq_true,if_false,Prod.mk.injEq] at hfu
    obtain⟨rfl,rfl⟩:=hfu
    simp only[str] at hm
    have Hm:=Lhd hm
    clear hm hc
    have d0:w13.cell? ⟨w.heap.size,0,none⟩=some (.pointer (some ⟨gp,0,none⟩)):=by have:=HT13.out.kb.cell 0;simpa using this
    have dl:=HT13.out.kb.lt
    go_wp2_with (fail)
    refine Hm.out.mono ?_
    rintro e w20 ⟨rfl,hP,hB⟩
    have HT20:=Lhd (HT13.out.on2 hP hB)
    clear hP hB d0 dl
    have d0:w20.cell? ⟨w.heap.size,0,none⟩=some (.pointer (some ⟨gp,0,none⟩)):=by have:=HT20.out.kb.cell 0;simpa using this
    have dl:=HT20.out.kb.lt
    go_wp2_with (fail)
    refine(Hbl.out _ HT20.out.p).mono ?_
    rintro e w30 ⟨Ab,nb,cb,D,rfl,hx,hP,hB⟩
    obtain⟨hx0,hx1,hr1,hr2,hg⟩:=HT20.out.out Hok.out hx hP hB
    rw[Hgr.out] at hr1 hr2 hg
    obtain⟨x0,x1,x2,x3,x4,x5,xl⟩:=cells6 hx0
    have fx:=hx0.frozen
    obtain⟨w31,Hw31⟩:∃ w31,Hid (w31=w30.setCell ⟨gx,5,none⟩ (.slice Ab nb cb)):=⟨_,rfl⟩
    have Hout:=Lhd (And.intro hx1 (And.intro hr1 (And.intro hr2 hg)))
    clear hx hP hB hx0 hx1 hr1 hr2 hg d0 dl
    go_upto_region 16 with (fail)
    rw[← Hw31.out]
    clear x0 x1 x2 x3 x4 x5 xl fx
    rw[← Hw31.out] at Hout
    obtain⟨x0,x1,x2,x3,x4,x5,xl⟩:=cells6 Hout.out.1
    obtain⟨y0,y1,y2,y3,y4,y5,yl⟩:=cells6 Hout.out.2.1
    have fy:=Hout.out.2.1.frozen
    go_wp2
    rw[lay6_eq]
    exact bodyPost_ret (ret_pr Tryz.results75 rfl Hout.out.2.2.1 rfl) rfl Hout.out.2.2.2
   ·have hm:=Hma.out (str [102,117,101,108]) s3 w13 HT13.out.p
    rw[hc] at hm hfu
    simp only[if_true] at hfu
    simp only[str] at hm
    have hn:=fun w2 (hW:PAt gp gc gw W s3.on w2)=>Hnu.out s3.on w2 hW
    generalize numP W s3.on=r at *
    obtain⟨rn,rs⟩:=r
    simp only[Prod.mk.injEq] at hfu hn
    obtain⟨rfl,rfl⟩:=hfu
    have Hm:=Lhd hm
    have Hn:=Lhd hn
    clear hm hc hn
    have d0:w13.cell? ⟨w.heap.size,0,none⟩=some (.pointer (some ⟨gp,0,none⟩)):=by have:=HT13.out.kb.cell 0;simpa using this
    have dl:=HT13.out.kb.lt
    go_wp2_with (fail)
    refine Hm.out.mono ?_
    rintro e w20 ⟨rfl,hP,hB⟩
    have HT20:=Lhd (HT13.out.on2 hP hB)
    clear hP hB d0 dl
    have d0:w20.cell? ⟨w.heap.size,0,none⟩=some (.pointer (some ⟨gp,0,none⟩)):=by have:=HT20.out.kb.cell 0;simpa using this
    have dl:=HT20.out.kb.lt
    go_wp2_with (fail)
    refine(Hn.out _ HT20.out.p).mono ?_
    rintro e w21 ⟨rfl,hP,hB⟩
    have hT21:=HT20.out.on2 hP hB
    have hT22:=hT21.fuel_ (min rn 2001)
    obtain⟨x0,x1,x2,x3,x4,x5,xl⟩:=cells6 hT21.kx
    have fx:=hT21.kx.frozen
    obtain⟨w22,Hw22⟩:∃ w22,Hid (w22=w21.setCell ⟨gx,3,none⟩ (.int .i64 (min rn 2001))):=⟨_,rfl⟩
    rw[← Hw22.out] at hT22
    have HT22:=Lhd hT22
    clear hP hB d0 dl hT21 hT22
    go_upto_region 15 with (fail)
    rw[← Hw22.out]
    clear x0 x1 x2 x3 x4 x5 xl fx
    have d0:w22.cell? ⟨w.heap.size,0,none⟩=some (.pointer (some ⟨gp,0,none⟩)):=by have:=HT22.out.kb.cell 0;simpa using this
    have dl:=HT22.out.kb.lt
    go_wp2_with (fail)
    refine(Hbl.out _ HT22.out.p).mono ?_
    rintro e w30 ⟨Ab,nb,cb,D,rfl,hx,hP,hB⟩
    obtain⟨hx0,hx1,hr1,hr2,hg⟩:=HT22.out.out Hok.out hx hP hB
    rw[Hgr.out] at hr1 hr2 hg
    obtain⟨x0,x1,x2,x3,x4,x5,xl⟩:=cells6 hx0
    have fx:=hx0.frozen
    obtain⟨w31,Hw31⟩:∃ w31,Hid (w31=w30.setCell ⟨gx,5,none⟩ (.slice Ab nb cb)):=⟨_,rfl⟩
    have Hout:=Lhd (And.intro hx1 (And.intro hr1 (And.intro hr2 hg)))
    clear hx hP hB hx0 hx1 hr1 hr2 hg d0 dl
    go_upto_region 16 with (fail)
    rw[← Hw31.out]
    clear x0 x1 x2 x3 x4 x5 xl fx
    rw[← Hw31.out] at Hout
    obtain⟨x0,x1,x2,x3,x4,x5,xl⟩:=cells6 Hout.out.1
    obtain⟨y0,y1,y2,y3,y4,y5,yl⟩:=cells6 Hout.out.2.1
    have fy:=Hout.out.2.1.frozen
    go_wp2
    rw[lay6_eq]
    exact bodyPost_ret (ret_pr Tryz.results75 rfl Hout.out.2.2.1 rfl) rfl Hout.out.2.2.2
end Go.Proofs.YtgbgiknfejpcoaaGreat
