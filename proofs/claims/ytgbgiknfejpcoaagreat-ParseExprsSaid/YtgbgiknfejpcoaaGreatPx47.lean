/- Parts of this proof, one behind the other: SmC, LwA, RhA. -/
import Derived.Test.YtgbgiknfejpcoaaGreatPx46
import Derived.Test.YtgbgiknfejpcoaaGreatPx32
set_option maxRecDepth 1000000
set_option maxHeartbeats 40000000
namespace Go.Proofs.YtgbgiknfejpcoaaGreat
open Go.RowKit Go.Afx
theorem onePr_any (F G:Nat→Prop) (d:Nat) (p:Pr) (r1 r2:List Value) (w:World) (h1:PrAt F d w r1 p) (h2:PrAt G d w r2 p):Calls Tryz.prog 38 #[.agg r1.toArray,.agg r2.toArray] w (TrueB w):=by
 obtain⟨_,_,_,_,A,n,c,Ab,nb,cb,rfl,hp,hbo⟩:=h1
 obtain⟨_,_,_,_,A',n',c',Ab',nb',cb',rfl,hp',hbo'⟩:=h2
 obtain rfl:n=n':=by rw[← LsAt.len hp,← LsAt.len hp']
 obtain rfl:nb=nb':=by rw[← LsAt.len hbo,← LsAt.len hbo']
 have hn:=LsAt.n_le hp
 obtain⟨w1,Hw1⟩:∃ w1,Hid (w1=(w.alloc (.cells #[.string p.name,.string p.src,.string p.part,.int .i64 p.fuel,.slice A n c,.slice Ab nb cb] 36)).alloc (.cells #[.string p.name,.string p.src,.string p.part,.int .i64 p.fuel,.slice A' n c',.slice Ab' nb cb'] 36)):=⟨_,rfl⟩
 have hb1:Below w.heap.size w w1:=by rw[Hw1.out];exact((Below.refl _ _).alloc (Nat.le_refl _) _).alloc (by simp) _
 have hkx:IsBlk w1 w.heap.size 36 #[.string p.name,.string p.src,.string p.part,.int .i64 p.fuel,.slice A n c,.slice Ab nb cb]:=by rw[Hw1.out];exact(IsBlk.laid _ _ _).alloc _
 have hky:IsBlk w1 (w.heap.size+1) 36 #[.string p.name,.string p.src,.string p.part,.int .i64 p.fuel,.slice A' n c',.slice Ab' nb cb']:=by
  rw[Hw1.out]
  have h:=IsBlk.laid (w.alloc (.cells #[.string p.name,.string p.src,.string p.part,.int .i64 p.fuel,.slice A n c,.slice Ab nb cb] 36)) 36 #[.string p.name,.string p.src,.string p.part,.int .i64 p.fuel,.slice A' n c',.slice Ab' nb cb']
  simpa using h
 obtain⟨x0,x1,x2,x3,x4,x5,xl⟩:=blk6 hkx
 obtain⟨y0,y1,y2,y3,y4,y5,yl⟩:=blk6 hky
 have Hb1:=Lhd hb1
 have Hkx:=Lhd hkx
 have Hky:=Lhd hky
 have Hl:=Lhd (And.intro hp hp')
 have Hbo:=Lhd (And.intro hbo hbo')
 clear hb1 hkx hky hp hp' hbo hbo'
 go_enter Tryz.func38,Tryz.ntmps38
 go_upto_region 1 with (fail)
 rw[← Hw1.out]
 go_wp2
 clear x0 x1 x2 x3 x4 x5 xl y0 y1 y2 y3 y4 y5 yl
 go_loopw [5] (fun i wr=>∃ k:Nat,k≤n∧i=.int .i64 k∧Below w1.heap.size w1 wr) (fun i _=>n-(intOf i).toNat)
 case atStart=>exact⟨0,Nat.zero_le _,rfl,Below.refl _ _⟩
 case round =>
  obtain⟨k,hk,rfl,hb⟩:=hrel
  have hkx:=Hkx.out.as_was (hb.block _ Hkx.out.lt)
  have hky:=Hky.out.as_was (hb.block _ Hky.out.lt)
  obtain⟨x0,x1,x2,x3,x4,x5,xl⟩:=blk6 hkx
  obtain⟨y0,y1,y2,y3,y4,y5,yl⟩:=blk6 hky
  have hbb:=Hb1.out.trans (hb.mono Hb1.out.size)
  by_cases hlt:k<n
  ·obtain⟨b5,o5,r5,u,rfl,hbl5,_,hu,_,⟨rfl,_⟩,hcu⟩:=LsAt.get (LsAt.below Hl.out.1 hbb) hlt
   obtain⟨b6,o6,r6,u',rfl,hbl6,_,hu',_,⟨rfl,_⟩,hcu'⟩:=LsAt.get (LsAt.below Hl.out.2 hbb) hlt
   obtain rfl:u=u':=Option.some.inj (hu.symm.trans hu')
   have s0:wr.cell? ⟨b5,o5+k*2,none⟩=some (.string u.name):=by simpa using hcu 0 _ rfl
   have s1:=hcu 1 _ rfl
   have s2:wr.cell? ⟨b6,o6+k*2,none⟩=some (.string u.name):=by simpa using hcu' 0 _ rfl
   have s3:=hcu' 1 _ rfl
   have Hq:=Lhd ((hb.trans ((Below.refl wr.heap.size wr).drew.mono hb.size)))
   clear hkx hky hbb hcu hcu' hu hu' hb
   go_wp2
   go_region
   all_goals go_wp2
   all_goals
    go_roundw
    case rel=>exact⟨k+1,by omega,by go_num,Hq.out⟩
    case measure=>simp[intOf];omega
  ·have hc:=oneB_any F G d Ab Ab' nb cb cb' p.body wr (StsAt.below Hbo.out.1 hbb) (StsAt.below Hbo.out.2 hbb)
   have Hc:=Lhd hc
   have Hbb:=Lhd hbb
   clear hkx hky hbb hb hc
   go_wp2_with (fail)
   refine Hc.out.mono ?_
   rintro y w4 ⟨rfl,hb4⟩
   have Hb4:=Lhd (Hbb.out.trans (hb4.mono Hbb.out.size))
   clear hb4
   go_wp2
   go_ret
   exact⟨rfl,Hb4.out⟩
def wantP:Pr:=⟨str [112],nil0,nil0,100,[⟨str [120],1⟩],[.mk 10 nil0 nil0 0 [] [.mk 6 0 nil0 nil0 nil0 [.mk 4 0 nil0 (str [120]) nil0 [],.mk 1 1 nil0 nil0 nil0 []]] [] []]⟩
def wantT:List UInt8:=[112,114,111,99,32,112,40,120,32,105,110,116,41,32,123,32,114,101,112,108,121,32,120,32,43,32,49,59,32,125]
theorem wantX:procX wantT=(wantP,0,0):=by kernel_rfl
theorem ls_new {α:Type} {F:Nat→Prop} {w:World} {sz g n:Nat} {T:TypeId} {P:List Value→α→Prop} (rows:List (List Value)) (xs:List α) (hg:g=w.heap.size) (hF:F g) (hl:rows.length=n) (hx:xs.length=n) (hm:n≤1000) (h:∀ (k:Nat) (r:List Value) (x:α),rows[k]?=some r→xs[k]?=some x→r.length=sz∧P r x) :
  LsAt F (w.alloc (.cells rows.flatten.toArray T)) sz P (some ⟨g,0,none⟩) n n xs :=
 ⟨rows,RowsAt.lit' _ rows n hg (by simp) (fun r hr=>by
  obtain⟨k,hk,rfl⟩:=List.mem_iff_getElem.1 hr
  exact(h k _ _ (List.getElem?_eq_getElem hk) (List.getElem?_eq_getElem (by omega))).1) hl (by unfold maxLen;omega),fun a ha _=>by cases ha;exact hF,by omega,h⟩
theorem one_new {α:Type} {F:Nat→Prop} {w:World} {sz g:Nat} {T:TypeId} {P:List Value→α→Prop} (row:List Value) (x:α) (hg:g=w.heap.size) (hF:F g) (hl:row.length=sz) (h:P row x):LsAt F (w.alloc (.cells row.toArray T)) sz P (some ⟨g,0,none⟩) 1 1 [x]:=by
 have h1:=ls_new (F:=F) (w:=w) (T:=T) (P:=P) [row] [x] hg hF (n:=1) rfl rfl (by omega) (fun k r y hr hy=>by
  rcases k with _|k
  ·simp at hr hy
   subst hr hy
   exact⟨hl,h⟩
  ·simp at hr)
 simpa using h1
def wantW (w2:World) (cs:Array Value):World:=((((((w2.alloc (.cells cs 36)).alloc (.cells #[.string ⟨#[120]⟩,.int .i64 1] 79)).alloc (.cells #[.int .i64 4,.int .i64 0,.string ⟨#[]⟩,.string ⟨#[120]⟩,.string ⟨#[]⟩,.slice none 0 0,.int .i64 1,.int .i64 1,.string ⟨#[]⟩,.string ⟨#[]⟩,.string ⟨#[]⟩,.slice none 0 0] 60)).alloc (.cells #[.int .i64 6,.int .i64 0,.string ⟨#[]⟩,.string ⟨#[]⟩,.string ⟨#[]⟩,.slice (some ⟨w2.heap.size+1+1,0,none⟩) 2 2] 60)).alloc (.cells #[.int .i64 10,.string ⟨#[]⟩,.string ⟨#[]⟩,.int .i64 0,.slice none 0 0,.slice (some ⟨w2.heap.size+1+1+1,0,none⟩) 1 1,.slice none 0 0,.slice none 0 0] 73)).alloc (.cells #[.string ⟨#[112]⟩,.string ⟨#[]⟩,.string ⟨#[]⟩,.int .i64 100,.slice (some ⟨w2.heap.size+1,0,none⟩) 1 1,.slice (some ⟨w2.heap.size+1+1+1+1,0,none⟩) 1 1] 36))
theorem wantW_eq (w2:World) (cs:Array Value):((((((w2.alloc (.cells cs 36)).alloc (.cells #[.string ⟨#[120]⟩,.int .i64 1] 79)).alloc (.cells #[.int .i64 4,.int .i64 0,.string ⟨#[]⟩,.string ⟨#[120]⟩,.string ⟨#[]⟩,.slice none 0 0,.int .i64 1,.int .i64 1,.string ⟨#[]⟩,.string ⟨#[]⟩,.string ⟨#[]⟩,.slice none 0 0] 60)).alloc (.cells #[.int .i64 6,.int .i64 0,.string ⟨#[]⟩,.string ⟨#[]⟩,.string ⟨#[]⟩,.slice (some ⟨w2.heap.size+1+1,0,none⟩) 2 2] 60)).alloc (.cells #[.int .i64 10,.string ⟨#[]⟩,.string ⟨#[]⟩,.int .i64 0,.slice none 0 0,.slice (some ⟨w2.heap.size+1+1+1,0,none⟩) 1 1,.slice none 0 0,.slice none 0 0] 73)).alloc (.cells #[.string ⟨#[112]⟩,.string ⟨#[]⟩,.string ⟨#[]⟩,.int .i64 100,.slice (some ⟨w2.heap.size+1,0,none⟩) 1 1,.slice (some ⟨w2.heap.size+1+1+1+1,0,none⟩) 1 1] 36))=wantW w2 cs:=rfl
theorem blk_at {w:World} {g:Nat} {T:TypeId} {cs:Array Value} (h:g=w.heap.size):IsBlk (w.alloc (.cells cs T)) g T cs:=by subst h;exact IsBlk.laid _ _ _
theorem want_at (w2:World) (cs:Array Value):IsBlk (wantW w2 cs) w2.heap.size 36 cs∧IsBlk (wantW w2 cs) (w2.heap.size+1+1+1+1+1) 36 #[.string ⟨#[112]⟩,.string ⟨#[]⟩,.string ⟨#[]⟩,.int .i64 100,.slice (some ⟨w2.heap.size+1,0,none⟩) 1 1,.slice (some ⟨w2.heap.size+1+1+1+1,0,none⟩) 1 1]∧PrAt (Fr w2) 9000 (wantW w2 cs) (#[.string ⟨#[112]⟩,.string ⟨#[]⟩,.string ⟨#[]⟩,.int .i64 100,.slice (some ⟨w2.heap.size+1,0,none⟩) 1 1,.slice (some ⟨w2.heap.size+1+1+1+1,0,none⟩) 1 1]:Array Value).toList wantP∧Below w2.heap.size w2 (wantW w2 cs):=by
 have al:∀ (w:World) (o:Obj),Below w.heap.size w (w.alloc o):=fun w o=>(Below.refl _ _).alloc (Nat.le_refl _) _
 have hok:∀ c:UInt8,okS (str [c]):=fun c=>by show 1≤_;omega
 unfold wantW
 obtain⟨w3,hw3⟩:∃ w3,w3=w2.alloc (.cells cs 36):=⟨_,rfl⟩
 have hk3:IsBlk w3 w2.heap.size 36 cs:=by rw[hw3];exact IsBlk.laid _ _ _
 have hb3:Below w2.heap.size w2 w3:=by rw[hw3];exact al _ _
 have hz3:w3.heap.size=w2.heap.size+1:=by rw[hw3];simp
 rw[← hw3]
 obtain⟨w4,hw4⟩:∃ w4,w4=w3.alloc (.cells #[.string ⟨#[120]⟩,.int .i64 1] 79):=⟨_,rfl⟩
 have hp4:LsAt (Fr w2) w4 2 CoRow (some ⟨w2.heap.size+1,0,none⟩) 1 1 wantP.params:=by
  rw[hw4]
  exact one_new (F:=Fr w2) (P:=CoRow) [.string ⟨#[120]⟩,.int .i64 1] (⟨str [120],1⟩:Co) hz3.symm (by show w2.heap.size≤_;omega) rfl ⟨rfl,hok _,by constructor<;>simp⟩
 have hb4:Below w3.heap.size w3 w4:=by rw[hw4];exact al _ _
 have hz4:w4.heap.size=w2.heap.size+1+1:=by rw[hw4];simp[hz3]
 rw[← hw4]
 obtain⟨w5,hw5⟩:∃ w5,w5=w4.alloc (.cells #[.int .i64 4,.int .i64 0,.string ⟨#[]⟩,.string ⟨#[120]⟩,.string ⟨#[]⟩,.slice none 0 0,.int .i64 1,.int .i64 1,.string ⟨#[]⟩,.string ⟨#[]⟩,.string ⟨#[]⟩,.slice none 0 0] 60):=⟨_,rfl⟩
 have ha5:ExsAt (Fr w2) 1 w5 (some ⟨w2.heap.size+1+1,0,none⟩) 2 2 [.mk 4 0 nil0 (str [120]) nil0 [],.mk 1 1 nil0 nil0 nil0 []]:=by
  rw[hw5]
  refine ls_new (n:=2) [[.int .i64 4,.int .i64 0,.string ⟨#[]⟩,.string ⟨#[120]⟩,.string ⟨#[]⟩,.slice none 0 0],[.int .i64 1,.int .i64 1,.string ⟨#[]⟩,.string ⟨#[]⟩,.string ⟨#[]⟩,.slice none 0 0]] _ hz4.symm (by show w2.heap.size≤_;omega) rfl rfl (by omega) (fun k r x hr hx=>?_)
  rcases k with _|_|k
  ·simp at hr hx;subst hr hx;exact⟨rfl,leaf_at _ _ 4 0 nil0 (str [120]) (by decide) (by decide) okI_0 okS_0 (hok _)⟩
  ·simp at hr hx;subst hr hx;exact⟨rfl,leaf_at _ _ 1 1 nil0 nil0 (by decide) (by decide) (by constructor<;>simp) okS_0 okS_0⟩
  ·simp at hr
 have hb5:Below w4.heap.size w4 w5:=by rw[hw5];exact al _ _
 have hz5:w5.heap.size=w2.heap.size+1+1+1:=by rw[hw5];simp[hz4]
 rw[← hw5]
 obtain⟨w6,hw6⟩:∃ w6,w6=w5.alloc (.cells #[.int .i64 6,.int .i64 0,.string ⟨#[]⟩,.string ⟨#[]⟩,.string ⟨#[]⟩,.slice (some ⟨w2.heap.size+1+1,0,none⟩) 2 2] 60):=⟨_,rfl⟩
 have hb6:Below w5.heap.size w5 w6:=by rw[hw6];exact al _ _
 have ha6:ExsAt (Fr w2) 2 w6 (some ⟨w2.heap.size+1+1+1,0,none⟩) 1 1 [.mk 6 0 nil0 nil0 nil0 [.mk 4 0 nil0 (str [120]) nil0 [],.mk 1 1 nil0 nil0 nil0 []]]:=by
  have h5:=ExsAt.below ha5 hb6
  rw[hw6] at h5 ⊢
  exact one_new [.int .i64 6,.int .i64 0,.string ⟨#[]⟩,.string ⟨#[]⟩,.string ⟨#[]⟩,.slice (some ⟨w2.heap.size+1+1,0,none⟩) 2 2] _ hz5.symm (by show w2.heap.size≤_;omega) rfl ⟨⟨by show _≤(6:Int);omega,by show (6:Int)≤_;omega⟩,okI_0,okS_0,okS_0,okS_0,_,2,2,rfl,h5⟩
 have hz6:w6.heap.size=w2.heap.size+1+1+1+1:=by rw[hw6];simp[hz5]
 rw[← hw6]
 obtain⟨w7,hw7⟩:∃ w7,w7=w6.alloc (.cells #[.int .i64 10,.string ⟨#[]⟩,.string ⟨#[]⟩,.int .i64 0,.slice none 0 0,.slice (some ⟨w2.heap.size+1+1+1,0,none⟩) 1 1,.slice none 0 0,.slice none 0 0] 73):=⟨_,rfl⟩
 have hb7:Below w6.heap.size w6 w7:=by rw[hw7];exact al _ _
 have ha7:StsAt (Fr w2) 3 w7 (some ⟨w2.heap.size+1+1+1+1,0,none⟩) 1 1 wantP.body:=by
  have h6:=ExsAt.below ha6 hb7
  rw[hw7] at h6 ⊢
  exact one_new [.int .i64 10,.string ⟨#[]⟩,.string ⟨#[]⟩,.int .i64 0,.slice none 0 0,.slice (some ⟨w2.heap.size+1+1+1,0,none⟩) 1 1,.slice none 0 0,.slice none 0 0] _ hz6.symm (by show w2.heap.size≤_;omega) rfl (st_of (by decide) (by decide) okI_0 okS_0 okS_0 (LsAt.nil_ _ _ _ _) h6 (sts_nil _ _ _) (sts_nil _ _ _))
 have hz7:w7.heap.size=w2.heap.size+1+1+1+1+1:=by rw[hw7];simp[hz6]
 rw[← hw7]
 have hb8:=al w7 (.cells #[.string ⟨#[112]⟩,.string ⟨#[]⟩,.string ⟨#[]⟩,.int .i64 100,.slice (some ⟨w2.heap.size+1,0,none⟩) 1 1,.slice (some ⟨w2.heap.size+1+1+1+1,0,none⟩) 1 1] 36)
 have h47:=(hb5.trans (hb6.mono hb5.size)).trans (hb7.mono (by omega))
 have h37:=hb4.trans (h47.mono hb4.size)
 have h27:=hb3.trans (h37.mono hb3.size)
 refine⟨(hk3.as_was (h37.block _ hk3.lt)).alloc _,blk_at hz7.symm,?_,h27.trans (hb8.mono h27.size)⟩
 refine⟨hok _,okS_0,okS_0,⟨by show _≤(100:Int);omega,by show (100:Int)≤_;omega⟩,_,1,1,_,1,1,rfl,?_,?_⟩
 ·exact(hp4.below h47).below hb8
 ·exact StsAt.conv (fun _ h=>h) (Kept.refl _ _) (by omega:3≤9000) (StsAt.below ha7 hb8)
theorem awakeR_any (w:World):Calls Tryz.prog 15 #[] w fun x w'=>x=.returned (.bool true)∧Below w.heap.size w w':=by
 have hp:=parseProc_any (str wantT) w
 have e:(str wantT).data.toList=wantT:=rfl
 rw[e,wantX] at hp
 have Hp:Hid (Calls Tryz.prog 37 #[.string ⟨#[112,114,111,99,32,112,40,120,32,105,110,116,41,32,123,32,114,101,112,108,121,32,120,32,43,32,49,59,32,125]⟩] w (ProcGives w (wantP,0,0))):=Lhd hp
 clear hp e
 go_enter Tryz.func15,Tryz.ntmps15
 go_wp2_with (fail)
 refine Hp.out.mono ?_
 rintro x w2 ⟨⟨row,rfl,hpr⟩,hb,_⟩
 have hpr2:=hpr
 obtain⟨_,_,_,_,Ap,np,cp,Ab,nb,cb,rfl,_⟩:=hpr2
 have Hpr:=Lhd hpr
 have Hb:=Lhd hb
 clear hpr hb
 go_upto_region 3 with (fail)
 rw[wantW_eq]
 obtain⟨hk,hq,hpw,hb8⟩:=want_at w2 #[.string wantP.name,.string wantP.src,.string wantP.part,.int .i64 wantP.fuel,.slice Ap np cp,.slice Ab nb cb]
 generalize wantW w2 #[.string wantP.name,.string wantP.src,.string wantP.part,.int .i64 wantP.fuel,.slice Ap np cp,.slice Ab nb cb]=w8 at *
 obtain⟨x0,x1,x2,x3,x4,x5,xl⟩:=blk6 hk
 obtain⟨y0,y1,y2,y3,y4,y5,yl⟩:=blk6 hq
 have hs:=onePr_any (Fr w) (Fr w2) 9000 wantP _ _ w8 (PrAt.below Hpr.out hb8) hpw
 have Hs:=Lhd hs
 have Hb8:=Lhd (Hb.out.trans (hb8.mono Hb.out.size))
 clear hs hb8 hpw hk hq
 go_wp2_with (fail)
 refine Hs.out.mono ?_
 rintro y w9 ⟨rfl,hb9⟩
 have Hb9:=Lhd (Hb8.out.trans (hb9.mono Hb8.out.size))
 clear hb9
 go_wp2
 go_ret
 exact⟨rfl,Hb9.out⟩
theorem parseExprs_walk (s:ByteArray) (w:World):Calls Tryz.prog 5 #[.string s] w fun x w'=>x=.returned (.bool true)∧Below w.heap.size w w':=by
 have hp:=parseExpr_any s w
 have Haw:=Lhd awakeR_any
 rcases Nat.lt_or_ge 8000 s.size with h8|h8
 ·have e:exprX s.data.toList=(ex0,0,5):=textX_long (by rw[szl];exact h8)
  rw[e] at hp
  have Hp:=Lhd hp
  have h9:decide ((8000:Int)<(s.size:Int))=true:=by simp;omega
  clear hp e
  go_enter Tryz.func5,Tryz.ntmps5
  go_wp2_with (fail)
  refine Hp.out.mono ?_
  rintro e w2 ⟨⟨row,rfl,hE⟩,hb⟩
  obtain⟨A',m',c',rfl⟩:=ex_row6 hE
  obtain⟨w3,Hw3⟩:∃ w3,Hid (w3=w2.alloc (.cells #[.int .i64 (ex0:Ex).op,.int .i64 (ex0:Ex).n,.string (ex0:Ex).s,.string (ex0:Ex).name,.string (ex0:Ex).src,.slice A' m' c'] 60)):=⟨_,rfl⟩
  have hal:Below w2.heap.size w2 w3:=by rw[Hw3.out];exact(Below.refl _ _).alloc (Nat.le_refl _) _
  have hk3:IsBlk w3 w2.heap.size 60 #[.int .i64 (ex0:Ex).op,.int .i64 (ex0:Ex).n,.string (ex0:Ex).s,.string (ex0:Ex).name,.string (ex0:Ex).src,.slice A' m' c']:=by rw[Hw3.out];exact IsBlk.laid _ _ _
  have hE3:=ExAt.conv (fun _ h=>h) (Kept.of_below hal) 9000 (Nat.le_refl 9000) hE
  have hsm:=oneE_any (Fr w) (Fr w) 9000 ex0 _ _ w3 hE3 (ex0_at (Fr w) w3)
  have Hsm:=Lhd hsm
  have H3:=Lhd (hb.trans (hal.mono hb.size))
  obtain⟨x0,x1,x2,x3,x4,x5,xl⟩:=cells6 hk3
  clear hE hE3 hsm hal hk3 hb h8
  go_upto_region 2 with (fail)
  rw[← Hw3.out]
  go_wp2_with (go_at_call 14;refine Hsm.out.mono ?_;rintro e w4 ⟨rfl,hb4⟩;have Hb4:=Lhd (H3.out.trans (hb4.mono H3.out.size));clear hb4)
  all_goals (try refine(Haw.out _).mono ?_;rintro e w5 ⟨rfl,hb5⟩;have Hb5:=Lhd (Hb4.out.trans (hb5.mono Hb4.out.size));clear hb5)
  go_wp2
  go_ret
  exact⟨rfl,Hb5.out⟩
 ·have hq:=fun w=>refExprX_any s w h8
  generalize exprX s.data.toList=x at *
  obtain⟨x,at_,er⟩:=x
  have Hp:=Lhd hp
  have Hq:=Lhd hq
  have h9:decide ((8000:Int)<(s.size:Int))=false:=by simp;omega
  have b1:(at_==at_)=true:=by simp
  have b2:(er==er)=true:=by simp
  clear hp hq
  go_enter Tryz.func5,Tryz.ntmps5
  go_wp2_with (fail)
  refine Hp.out.mono ?_
  rintro e w2 ⟨⟨row,rfl,hE⟩,hb⟩
  obtain⟨A',m',c',rfl⟩:=ex_row6 hE
  obtain⟨w3,Hw3⟩:∃ w3,Hid (w3=w2.alloc (.cells #[.int .i64 x.op,.int .i64 x.n,.string x.s,.string x.name,.string x.src,.slice A' m' c'] 60)):=⟨_,rfl⟩
  have hal:Below w2.heap.size w2 w3:=by rw[Hw3.out];exact(Below.refl _ _).alloc (Nat.le_refl _) _
  have hk3:IsBlk w3 w2.heap.size 60 #[.int .i64 x.op,.int .i64 x.n,.string x.s,.string x.name,.string x.src,.slice A' m' c']:=by rw[Hw3.out];exact IsBlk.laid _ _ _
  have H3:=Lhd (And.intro (hb.trans (hal.mono hb.size)) (And.intro hk3 (ExAt.conv (fun _ h=>h) (Kept.of_below hal) 9000 (Nat.le_refl 9000) hE)))
  clear hE hal hk3 hb h8
  go_upto_region 2 with (fail)
  rw[← Hw3.out]
  go_wp2_with (fail)
  refine(Hq.out _).mono ?_
  rintro e w4 ⟨⟨row,rfl,hE⟩,hb⟩
  obtain⟨B',n',d',rfl⟩:=ex_row6 hE
  obtain⟨w5,Hw5⟩:∃ w5,Hid (w5=w4.alloc (.cells #[.int .i64 x.op,.int .i64 x.n,.string x.s,.string x.name,.string x.src,.slice B' n' d'] 60)):=⟨_,rfl⟩
  have hal:Below w4.heap.size w4 w5:=by rw[Hw5.out];exact(Below.refl _ _).alloc (Nat.le_refl _) _
  have hk5:IsBlk w5 w4.heap.size 60 #[.int .i64 x.op,.int .i64 x.n,.string x.s,.string x.name,.string x.src,.slice B' n' d']:=by rw[Hw5.out];exact IsBlk.laid _ _ _
  have h35:=hb.trans (hal.mono hb.size)
  have hk3:=H3.out.2.1.as_was (h35.block _ H3.out.2.1.lt)
  have hsm:=oneE_any (Fr w) (Fr w3) 9000 x _ _ w5 (ExAt.conv (fun _ h=>h) (Kept.of_below h35) 9000 (Nat.le_refl 9000) H3.out.2.2) (ExAt.conv (fun _ h=>h) (Kept.of_below hal) 9000 (Nat.le_refl 9000) hE)
  have Hsm:=Lhd hsm
  have H5:=Lhd (H3.out.1.trans (h35.mono H3.out.1.size))
  obtain⟨x0,x1,x2,x3,x4,x5,xl⟩:=cells6 hk3
  obtain⟨y0,y1,y2,y3,y4,y5,yl⟩:=cells6 hk5
  clear hE hsm hal hk3 hk5 hb h35
  go_upto_region 5 with (fail)
  rw[← Hw5.out]
  go_wp2_with (go_at_call 14;refine Hsm.out.mono ?_;rintro e w6 ⟨rfl,hb6⟩;have Hb6:=Lhd (H5.out.trans (hb6.mono H5.out.size));clear hb6)
  all_goals (try refine(Haw.out _).mono ?_;rintro e w7 ⟨rfl,hb7⟩;have Hb7:=Lhd (Hb6.out.trans (hb7.mono Hb6.out.size));clear hb7)
  go_wp2
  go_ret
  exact⟨rfl,Hb7.out⟩
end Go.Proofs.YtgbgiknfejpcoaaGreat
