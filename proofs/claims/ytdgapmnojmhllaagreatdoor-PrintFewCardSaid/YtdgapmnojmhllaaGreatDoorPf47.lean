/- Parts of this proof, one behind the other: RgR. -/
import Derived.Test.YtdgapmnojmhllaaGreatDoorPf46
import Derived.Test.YtdgapmnojmhllaaGreatDoorPf26
set_option maxRecDepth 1000000
set_option maxHeartbeats 40000000
namespace Go.Proofs.YtdgapmnojmhllaaGreatDoor
open Go.RowKit Go.Afx
def foldW:List ByteArray:=[str [99,111,117,110,116],str [115,117,109],str [109,105,110],str [109,97,120]]
def foldA:Array Value:=#[.string ⟨#[99,111,117,110,116]⟩,.string ⟨#[115,117,109]⟩,.string ⟨#[109,105,110]⟩,.string ⟨#[109,97,120]⟩]
theorem foldA_eq:foldA=(foldW.map Value.string).toArray:=rfl
theorem foldA_at {k:Nat} {t:ByteArray} (h:foldW[k]?=some t):foldA[k]?=some (.string t):=by
 rw[foldA_eq,List.getElem?_toArray,List.getElem?_map,h]
 rfl
def FoldJ (W:Wds) (s:PSt) (j:Nat):Prop:=∀ (i:Nat) (t:ByteArray),foldW[i]?=some t→mayP W t s=if i=j then (true,s.on) else (false,s)
theorem foldOp_of {W:Wds} {s:PSt} {j:Nat} (hj:j<4) (h:FoldJ W s j):foldOp W s=(21+(j:Int),s.on):=by
 have h0:=h 0 _ rfl
 have h1:=h 1 _ rfl
 have h2:=h 2 _ rfl
 have h3:=h 3 _ rfl
 obtain rfl|rfl|rfl|rfl:j=0∨j=1∨j=2∨j=3:=by omega
 all_goals
  simp at h0 h1 h2 h3
  rw[foldOp_eq]
  simp[h0,h1,h2,h3,mustP]
structure Six6 (g gw:Nat) (W:Wds) (s:PSt) (gx g6:Nat) (w1:World) (cs:Array Value) (wr:World):Prop where
 p:DAt g gw W s wr
 b:But (fun i=>i=g) w1 wr
 kx:IsBlk wr gx 32 zero6
 ke:IsBlk wr g6 32 cs
section
variable {g gw gx g6:Nat} {W:Wds} {s s':PSt} {w1 wr w':World} {cs:Array Value}
theorem Six6.step (h:Six6 g gw W s gx g6 w1 cs wr) (hz:g≠gx∧g≠g6) (hP:DAt g gw W s' w') (hB:But (fun i=>i=g) wr w'):Six6 g gw W s' gx g6 w1 cs w':=⟨hP,h.b.trans' hB,one_blk h.kx hB hz.1,one_blk h.ke hB hz.2⟩
theorem Six6.store (h:Six6 g gw W s gx g6 w1 cs wr) (hz:g≠g6∧gw≠g6∧gx≠g6∧w1.heap.size≤g6) (i:Nat) (v:Value):Six6 g gw W s gx g6 w1 (cs.setIfInBounds i v) (wr.setCell ⟨g6,i,none⟩ v):=by
 have hbc:But (fun k=>k=g6) wr (wr.setCell ⟨g6,i,none⟩ v):=but_cell (g:=g6) (But.refl _ _) i _
 exact⟨h.p.elsewhere hbc hz.1 hz.2.1,h.b.trans hbc (fun k hk=>.inr (by omega)),h.kx.as_was (hbc.block _ h.kx.lt hz.2.2.1),h.ke.stored i v⟩
theorem Six6.leave (h:Six6 g gw W s gx g6 w1 cs wr) (hz:g≠gx∧g≠g6):Six6 g gw W (leaveP s) gx g6 w1 cs (wr.setCell ⟨g,2,none⟩ (.int .i64 (wrap64 (s.deep-1)))):=h.step hz (deep_leave h.p) (but_cell (But.refl _ _) 2 _)
end
theorem kept_g {g:Nat} {F:Nat→Prop} {w w':World} (hb:But (fun i=>i=g) w w') (h:¬ F g):Kept F w w':=Kept.of_but hb fun _ hk e=>h (e▸hk)
structure FoldAt (g gw:Nat) (W:Wds) (s:PSt) (j k gx g5 g6:Nat) (w1 wr:World):Prop where
 p:DAt g gw W (if j<k then s.on else s) wr
 b:But (fun i=>i=g) w1 wr
 kx:IsBlk wr gx 32 zero6
 ks:IsBlk wr g5 9 foldA
 ke:IsBlk wr g6 32 #[.int .i64 (if j<k then 21+(j:Int) else 0),.int .i64 0,.string ⟨#[]⟩,.string ⟨#[]⟩,.string ⟨#[]⟩,.slice none 0 0]
theorem dSingle_fold (g gw:Nat) (W:Wds) (s:PSt) (w:World) (h:DAt g gw W s w) (hbad:s.bad=false) (h_neg:mayP W (str [45]) s=(false,s)) (h_k1:(!s.bad&&((W.look s.at_).kind==1))=false) (h_k2:(!s.bad&&((W.look s.at_).kind==2))=false) (h_true:mayP W (str [116,114,117,101]) s=(false,s)) (h_false:mayP W (str [102,97,108,115,101]) s=(false,s)) (h_par:mayP W (str [40]) s=(false,s)) (E:PSt→Ex×PSt) (hUE:∀ s,Ge s (E s).2) (j:Nat) (hj:j<4) (hJ:FoldJ W s j) (hE:∀ s',Ge s.on s'→ExprD g gw W 1 E s') :
  Calls Tryz.prog 67 #[.pointer (some ⟨g,0,none⟩)] w (GivesD g gw W (foldP W E s).2 (foldP W E s).1 w):=by
 have hz:=And.intro h.lt h.wl
 obtain⟨w1,Hw1⟩:∃ w1,Hid (w1=w.alloc (.cells zero6 32)):=⟨_,rfl⟩
 have hb1:Below w.heap.size w w1:=by rw[Hw1.out];exact(Below.refl _ _).alloc (Nat.le_refl _) _
 have hk1:IsBlk w1 w.heap.size 32 zero6:=by rw[Hw1.out];exact IsBlk.laid _ _ _
 have hsz:w1.heap.size=w.heap.size+1:=by rw[Hw1.out];simp
 have h1:=h.below hb1
 have H1:=Lhd (And.intro h1 (But.refl (fun k=>k=g) w1))
 have Hb1:=Lhd (But.of_below (S:=fun k=>k=g) hb1)
 have Hk1:=Lhd hk1
 have Hz:=Lhd (And.intro hz hsz)
 have Hh:=Lhd h
 have T_neg:=Lhd (mayT g gw W s (str [45]) false s h_neg)
 have T_k1:=Lhd (kindT g gw W s 1 false (by decide) h_k1)
 have T_k2:=Lhd (kindT g gw W s 2 false (by decide) h_k2)
 have T_true:=Lhd (mayT g gw W s (str [116,114,117,101]) false s h_true)
 have T_false:=Lhd (mayT g gw W s (str [102,97,108,115,101]) false s h_false)
 have T_par:=Lhd (mayT g gw W s (str [40]) false s h_par)
 have I0:=Lhd (isT g gw W s (str [99,111,117,110,116]) (decide (0=j)) (by rw[hJ 0 _ rfl];split<;>simp_all))
 have I1:=Lhd (isT g gw W s (str [115,117,109]) (decide (1=j)) (by rw[hJ 1 _ rfl];split<;>simp_all))
 have I2:=Lhd (isT g gw W s (str [109,105,110]) (decide (2=j)) (by rw[hJ 2 _ rfl];split<;>simp_all))
 have I3:=Lhd (isT g gw W s (str [109,97,120]) (decide (3=j)) (by rw[hJ 3 _ rfl];split<;>simp_all))
 simp only[str] at I0 I1 I2 I3
 have HJ:=Lhd hJ
 have Hfin:=Lhd (foldP_eq W E s)
 have HE:=Lhd hE
 have HUE:=Lhd hUE
 have Hmay:=Lhd (fun t s' b s2 (hh:mayP W t s'=(b,s2))=>mayT g gw W s' t b s2 hh)
 have Htake:=Lhd (fun t s'=>takeT g gw W s' t)
 have Hent:=Lhd (fun s'=>enterT g gw W s')
 have Hname:=Lhd (fun s'=>nameT g gw W s')
 have Hwhere:=Lhd (fun s' w' hw he=>dWhere_any g gw W E s' w' hw he)
 have Hok:=Lhd (fun s'=>name_okD h s')
 generalize foldP W E s=fin at *
 simp only[str] at T_neg T_true T_false T_par
 obtain⟨Aw,nw,cw,c0,c1,c2,c3,c4,cg,cf⟩:=h1.cells
 rw[hbad] at c4
 clear h h1 hz hb1 hk1 hsz hbad c0 c1 c2 c3 cf h_neg h_k1 h_k2 h_true h_false h_par hJ hE hUE
 go_enter Tryz.func67,Tryz.ntmps67
 go_upto_region 6 with (fail)
 rw[← Hw1.out]
 go_wp2_with (fail)
 refine(T_neg.out _ H1.out.1).mono ?_
 rintro e w2 ⟨rfl,hP,hB⟩
 have H2:=Lhd (And.intro hP (H1.out.2.trans' hB))
 clear hP hB c4 cg
 go_wp2_with (fail)
 refine(T_k1.out _ H2.out.1).mono ?_
 rintro e w3 ⟨rfl,hP,hB⟩
 have H3:=Lhd (And.intro hP (H2.out.2.trans' hB))
 clear hP hB
 go_wp2_with (fail)
 refine(T_k2.out _ H3.out.1).mono ?_
 rintro e w4 ⟨rfl,hP,hB⟩
 have H4:=Lhd (And.intro hP (H3.out.2.trans' hB))
 clear hP hB
 go_wp2_with (fail)
 refine(T_true.out _ H4.out.1).mono ?_
 rintro e w5 ⟨rfl,hP,hB⟩
 have H5:=Lhd (And.intro hP (H4.out.2.trans' hB))
 clear hP hB
 go_wp2_with (fail)
 refine(T_false.out _ H5.out.1).mono ?_
 rintro e w6 ⟨rfl,hP,hB⟩
 have H6:=Lhd (And.intro hP (H5.out.2.trans' hB))
 clear hP hB
 go_wp2_with (fail)
 refine(T_par.out _ H6.out.1).mono ?_
 rintro e w7 ⟨rfl,hP,hB⟩
 have H7:=Lhd (And.intro hP (H6.out.2.trans' hB))
 clear hP hB
 go_upto_region 27 with (fail)
 go_cut [95] (fun u95 wr=>u95=.bool true∧DAt g gw W s wr∧But (fun k=>k=g) w1 wr)
 case first =>
  obtain rfl|rfl|rfl|rfl:j=0∨j=1∨j=2∨j=3:=by omega
  ·clear Hfin HE HUE Hmay Htake Hent Hname Hwhere Hok HJ
   have J0:=Lhd I0.out
   simp only at J0
   clear I0 I1 I2 I3
   go_wp2_with (fail)
   refine(J0.out _ H7.out.1).mono ?_
   rintro e w8 ⟨rfl,hP,hB⟩
   have H8:=Lhd (And.intro hP (H7.out.2.trans' hB))
   clear hP hB
   go_wp2
   go_meet
   exact⟨rfl,H8.out.1,H8.out.2⟩
  ·clear Hfin HE HUE Hmay Htake Hent Hname Hwhere Hok HJ
   have J0:=Lhd I0.out
   simp only[show decide (0=1)=false from by decide] at J0
   have J1:=Lhd I1.out
   simp only at J1
   clear I0 I1 I2 I3
   go_wp2_with (fail)
   refine(J0.out _ H7.out.1).mono ?_
   rintro e w8 ⟨rfl,hP,hB⟩
   have H8:=Lhd (And.intro hP (H7.out.2.trans' hB))
   clear hP hB
   go_wp2_with (fail)
   refine(J1.out _ H8.out.1).mono ?_
   rintro e w9 ⟨rfl,hP,hB⟩
   have H9:=Lhd (And.intro hP (H8.out.2.trans' hB))
   clear hP hB
   go_wp2
   go_meet
   exact⟨rfl,H9.out.1,H9.out.2⟩
  ·clear Hfin HE HUE Hmay Htake Hent Hname Hwhere Hok HJ
   have J0:=Lhd I0.out
   simp only[show decide (0=2)=false from by decide] at J0
   have J1:=Lhd I1.out
   simp only[show decide (1=2)=false from by decide] at J1
   have J2:=Lhd I2.out
   simp only at J2
   clear I0 I1 I2 I3
   go_wp2_with (fail)
   refine(J0.out _ H7.out.1).mono ?_
   rintro e w8 ⟨rfl,hP,hB⟩
   have H8:=Lhd (And.intro hP (H7.out.2.trans' hB))
   clear hP hB
   go_wp2_with (fail)
   refine(J1.out _ H8.out.1).mono ?_
   rintro e w9 ⟨rfl,hP,hB⟩
   have H9:=Lhd (And.intro hP (H8.out.2.trans' hB))
   clear hP hB
   go_wp2_with (fail)
   refine(J2.out _ H9.out.1).mono ?_
   rintro e w10 ⟨rfl,hP,hB⟩
   have H10:=Lhd (And.intro hP (H9.out.2.trans' hB))
   clear hP hB
   go_wp2
   go_meet
   exact⟨rfl,H10.out.1,H10.out.2⟩
  ·clear Hfin HE HUE Hmay Htake Hent Hname Hwhere Hok HJ
   have J0:=Lhd I0.out
   simp only[show decide (0=3)=false from by decide] at J0
   have J1:=Lhd I1.out
   simp only[show decide (1=3)=false from by decide] at J1
   have J2:=Lhd I2.out
   simp only[show decide (2=3)=false from by decide] at J2
   have J3:=Lhd I3.out
   simp only at J3
   clear I0 I1 I2 I3
   go_wp2_with (fail)
   refine(J0.out _ H7.out.1).mono ?_
   rintro e w8 ⟨rfl,hP,hB⟩
   have H8:=Lhd (And.intro hP (H7.out.2.trans' hB))
   clear hP hB
   go_wp2_with (fail)
   refine(J1.out _ H8.out.1).mono ?_
   rintro e w9 ⟨rfl,hP,hB⟩
   have H9:=Lhd (And.intro hP (H8.out.2.trans' hB))
   clear hP hB
   go_wp2_with (fail)
   refine(J2.out _ H9.out.1).mono ?_
   rintro e w10 ⟨rfl,hP,hB⟩
   have H10:=Lhd (And.intro hP (H9.out.2.trans' hB))
   clear hP hB
   go_wp2_with (fail)
   refine(J3.out _ H10.out.1).mono ?_
   rintro e w11 ⟨rfl,hP,hB⟩
   have H11:=Lhd (And.intro hP (H10.out.2.trans' hB))
   clear hP hB
   go_wp2
   go_meet
   exact⟨rfl,H11.out.1,H11.out.2⟩
 case rest =>
 obtain⟨hu,hP,hB⟩:=hcut
 subst hu
 have HA:=Lhd (And.intro hP hB)
 have hBz:=hB.size
 clear hP hB H1 H2 H3 H4 H5 H6 H7 I0 I1 I2 I3
 obtain⟨w30,Hw30⟩:∃ w30,Hid (w30=(wc.alloc (.cells foldA 9)).alloc (.cells zero6 32)):=⟨_,rfl⟩
 have hb30:Below wc.heap.size wc w30:=by rw[Hw30.out];exact((Below.refl _ _).alloc (Nat.le_refl _) _).alloc (by simp) _
 have hks:IsBlk w30 wc.heap.size 9 foldA:=by rw[Hw30.out];exact(IsBlk.laid _ _ _).alloc _
 have hke:IsBlk w30 (wc.heap.size+1) 32 zero6:=by rw[Hw30.out];exact blk_new (by simp)
 have hkx:IsBlk w30 w.heap.size 32 zero6:=(one_blk Hk1.out HA.out.2 (by have:=Hz.out;omega)).as_was (hb30.block _ (one_blk Hk1.out HA.out.2 (by have:=Hz.out;omega)).lt)
 have H30:=Lhd (show FoldAt g gw W s j 0 w.heap.size wc.heap.size (wc.heap.size+1) w1 w30 from ⟨by rw[if_neg (Nat.not_lt_zero j)];exact HA.out.1.below hb30,HA.out.2.trans' (But.of_below hb30),hkx,hks,by rw[if_neg (Nat.not_lt_zero j)];exact hke⟩)
 have Hgs:=Lhd (show w1.heap.size≤wc.heap.size from hBz)
 have Hs30:=Lhd (show wc.heap.size+2=w30.heap.size by rw[Hw30.out];simp)
 clear hb30 hks hke hkx hBz
 unfold foldA at Hw30
 go_upto_region 30 with (fail)
 rw[← Hw30.out]
 generalize wc.heap.size=g5 at *
 go_wp2
 go_loopw [7] (fun u7 wr=>∃ k:Nat,k≤4∧u7=.int .i64 k∧FoldAt g gw W s j k w.heap.size g5 (g5+1) w1 wr) (fun i _=>4-(intOf i).toNat)
 case atStart=>exact⟨0,by omega,rfl,H30.out⟩
 case round =>
  obtain⟨k,hk,rfl,hF⟩:=hrel
  have HF:=Lhd hF
  clear hF
  rcases Nat.lt_or_ge k 4 with hlt|hge
  ·obtain⟨t,ht⟩:∃ t,foldW[k]?=some t:=⟨_,List.getElem?_eq_getElem (show k<foldW.length from hlt)⟩
   have hm:=HJ.out k t ht
   obtain⟨y0,y1,y2,y3,y4,y5,yl⟩:=cells6 HF.out.ke
   have fy:=HF.out.ke.frozen
   have c5:wr.cell? ⟨g5,k,none⟩=some (.string t):=by rw[HF.out.ks.cell k];exact foldA_at ht
   have z5:=HF.out.ks.lt
   have i0:(0:Int)≤(k:Int):=by omega
   have i1:(k:Int)<4:=by omega
   clear ht
   rcases Nat.lt_trichotomy j k with hjk|hjk|hjk
   ·have e1:(if j<k then 21+(j:Int) else 0)=21+(j:Int):=if_pos hjk
    rw[e1] at y0
    have q0:((21+(j:Int))==0)=false:=by rw[beq_eq_false_iff_ne];omega
    have HF2:=Lhd (show FoldAt g gw W s j (k+1) w.heap.size g5 (g5+1) w1 wr from ⟨by have:=HF.out.p;rw[if_pos hjk] at this;rw[if_pos (by omega)];exact this,HF.out.b,HF.out.kx,HF.out.ks,by have:=HF.out.ke;rw[if_pos hjk] at this;rw[if_pos (by omega)];exact this⟩)
    clear hm e1 hjk
    go_wp2
    go_roundw
    case rel=>exact⟨k+1,by omega,by go_num,HF2.out⟩
    case measure=>simp[intOf];omega
   ·subst hjk
    have e1:(if j<j then 21+(j:Int) else 0)=0:=if_neg (Nat.lt_irrefl j)
    rw[e1] at y0
    rw[if_pos rfl] at hm
    have hp:=HF.out.p
    rw[if_neg (Nat.lt_irrefl j)] at hp
    have hc:=Hmay.out t s true s.on hm wr hp
    have Hc:=Lhd hc
    clear hm hp hc e1
    go_wp2_with (fail)
    refine Hc.out.mono ?_
    rintro e w3 ⟨rfl,hP,hB⟩
    have hke:=one_blk HF.out.ke hB (by have:=Hz.out;have:=Hgs.out;omega)
    rw[if_neg (Nat.lt_irrefl j)] at hke
    have hbc:But (fun i=>i=g5+1) w3 (w3.setCell ⟨g5+1,0,none⟩ (.int .i64 (21+(j:Int)))):=but_cell (g:=g5+1) (But.refl _ _) 0 _
    have hks:=one_blk HF.out.ks hB (by have:=Hz.out;have:=Hgs.out;omega)
    have hkx:=one_blk HF.out.kx hB (by have:=Hz.out;omega)
    have HF2:=Lhd (show FoldAt g gw W s j (j+1) w.heap.size g5 (g5+1) w1 (w3.setCell ⟨g5+1,0,none⟩ (.int .i64 (21+(j:Int)))) from ⟨by rw[if_pos (by omega)];exact hP.elsewhere hbc (by have:=Hz.out;have:=Hgs.out;omega) (by have:=Hz.out;have:=Hgs.out;omega),(HF.out.b.trans' hB).trans hbc (fun i hi=>.inr (by have:=Hgs.out;omega)),hkx.as_was (hbc.block _ hkx.lt (by have:=Hz.out;have:=Hgs.out;omega)),hks.as_was (hbc.block _ hks.lt (by omega)),by rw[if_pos (by omega)];exact hke.stored 0 (.int .i64 (21+(j:Int)))⟩)
    clear y0 y1 y2 y3 y4 y5 yl fy
    obtain⟨y0,y1,y2,y3,y4,y5,yl⟩:=cells6 hke
    have fy:=hke.frozen
    clear hP hB hke hbc hks hkx
    go_wp2
    go_roundw
    case rel=>exact⟨j+1,by omega,by go_num,HF2.out⟩
    case measure=>simp[intOf];omega
   ·have e1:(if j<k then 21+(j:Int) else 0)=0:=if_neg (by omega)
    rw[e1] at y0
    rw[if_neg (by omega)] at hm
    have hp:=HF.out.p
    rw[if_neg (by omega)] at hp
    have hc:=Hmay.out t s false s hm wr hp
    have Hc:=Lhd hc
    clear hm hp hc e1
    go_wp2_with (fail)
    refine Hc.out.mono ?_
    rintro e w3 ⟨rfl,hP,hB⟩
    have hke:=one_blk HF.out.ke hB (by have:=Hz.out;have:=Hgs.out;omega)
    rw[if_neg (by omega)] at hke
    have HF2:=Lhd (show FoldAt g gw W s j (k+1) w.heap.size g5 (g5+1) w1 w3 from ⟨by rw[if_neg (by omega)];exact hP,HF.out.b.trans' hB,one_blk HF.out.kx hB (by have:=Hz.out;omega),one_blk HF.out.ks hB (by have:=Hz.out;have:=Hgs.out;omega),by rw[if_neg (by omega)];exact hke⟩)
    clear hP hB hke
    go_wp2
    go_roundw
    case rel=>exact⟨k+1,by omega,by go_num,HF2.out⟩
    case measure=>simp[intOf];omega
  ·obtain rfl:k=4:=by omega
   have e1:(if j<4 then 21+(j:Int) else 0)=21+(j:Int):=if_pos hj
   have hke:=HF.out.ke
   have hp:=HF.out.p
   rw[e1] at hke
   rw[if_pos hj] at hp
   have hf:=Hfin.out
   rw[foldOp_of hj HJ.out] at hf
   simp only at hf
   have hop:0≤21+(j:Int)∧21+(j:Int)≤100:=⟨by omega,by omega⟩
   have hjz:(21+(j:Int)=21∧decide ((21:Int)<21+(j:Int))=false)∨(21+(j:Int)≠21∧decide ((21:Int)<21+(j:Int))=true):=by
    rcases Nat.eq_zero_or_pos j with h0|h0
    ·exact .inl ⟨by omega,by simp;omega⟩
    ·exact .inr ⟨by omega,by simp;omega⟩
   generalize 21+(j:Int)=op at *
   have Hop:=Lhd hop
   have H3:=Lhd (show Six6 g gw W s.on w.heap.size (g5+1) w1 #[.int .i64 op,.int .i64 0,.string ⟨#[]⟩,.string ⟨#[]⟩,.string ⟨#[]⟩,.slice none 0 0] wr from ⟨hp,HF.out.b,HF.out.kx,hke⟩)
   have Hne:=Lhd (show (g≠w.heap.size∧g≠g5+1)∧(g≠g5+1∧gw≠g5+1∧w.heap.size≠g5+1∧w1.heap.size≤g5+1) from by have:=Hz.out;have:=Hgs.out;omega)
   clear hke hp e1 hop HF H30 HA
   have hrw:rowsP W (enterP (mustP W [str [40]] s.on))=(((nameP W (enterP (mustP W [str [40]] s.on))).1,(nameP W (mustP W [str [105,110]] (nameP W (enterP (mustP W [str [40]] s.on))).2)).1),(nameP W (mustP W [str [105,110]] (nameP W (enterP (mustP W [str [40]] s.on))).2)).2):=rfl
   have hgeq:=ge_must W (str [40]) s.on
   have Ht1:=Lhd (Htake.out (str [40]) s.on)
   generalize mustP W [str [40]] s.on=s1 at *
   have Hn1:=Lhd (Hent.out s1)
   have hgeq:=hgeq.trans (ge_enter s1)
   generalize enterP s1=s2 at *
   have Hn2:=Lhd (Hname.out s2)
   have hok1:=Hok.out s2
   have hgeq:=hgeq.trans (up_name W s2)
   generalize nameP W s2=n1 at *
   obtain⟨nm,s3⟩:=n1
   simp only at Hn2 hok1 hgeq hrw
   have Ht3:=Lhd (Htake.out (str [105,110]) s3)
   have hgeq:=hgeq.trans (ge_must W (str [105,110]) s3)
   generalize mustP W [str [105,110]] s3=s4 at *
   have Hn4:=Lhd (Hname.out s4)
   have hok2:=Hok.out s4
   have hgeq:=hgeq.trans (up_name W s4)
   generalize nameP W s4=n2 at *
   obtain⟨sc,s5⟩:=n2
   simp only at Hn4 hok2 hgeq hrw
   rw[hrw] at hf
   simp only at hf
   have Hw5:=Lhd (fun w' hw=>Hwhere.out s5 w' hw (HE.out _ (hgeq.trans (ge_may W _ s5))))
   have hgea:=hgeq.trans (up_where W HUE.out s5)
   generalize whereP W E s5=a at *
   obtain⟨ax,sa⟩:=a
   simp only at Hw5 hgea hf
   have Hok2:=Lhd (And.intro hok1 hok2)
   have Hf:=Lhd hf
   have Hgea:=Lhd hgea
   simp only[str] at Ht1 Ht3
   clear hrw hgeq hok1 hok2 hf hgea
   go_wp2_with (fail)
   refine(Ht1.out _ H3.out.p).mono ?_
   rintro e w4 ⟨rfl,hP,hB⟩
   have H4:=Lhd (H3.out.step Hne.out.1 hP hB)
   clear hP hB
   go_wp2_with (fail)
   refine(Hn1.out _ H4.out.p).mono ?_
   rintro e w5 ⟨rfl,hP,hB⟩
   have H5:=Lhd (H4.out.step Hne.out.1 hP hB)
   clear hP hB
   go_wp2_with (fail)
   refine(Hn2.out _ H5.out.p).mono ?_
   rintro e w6 ⟨rfl,hP,hB⟩
   have H6:=Lhd (H5.out.step Hne.out.1 hP hB)
   have H7:=Lhd (H6.out.store Hne.out.2 3 (.string nm))
   clear hP hB
   obtain⟨y0,y1,y2,y3,y4,y5,yl⟩:=cells6 H6.out.ke
   have fy:=H6.out.ke.frozen
   obtain⟨w7,Hw7⟩:∃ w7,Hid (w7=w6.setCell ⟨g5+1,3,none⟩ (.string nm)):=⟨_,rfl⟩
   rw[← Hw7.out] at H7
   go_upto_region 38 with (fail)
   rw[← Hw7.out]
   clear y0 y1 y2 y3 y4 y5 yl fy
   go_wp2_with (fail)
   refine(Ht3.out _ H7.out.p).mono ?_
   rintro e w8 ⟨rfl,hP,hB⟩
   have H8:=Lhd (H7.out.step Hne.out.1 hP hB)
   clear hP hB
   go_wp2_with (fail)
   refine(Hn4.out _ H8.out.p).mono ?_
   rintro e w9 ⟨rfl,hP,hB⟩
   have H9:=Lhd (H8.out.step Hne.out.1 hP hB)
   have H10:=Lhd (H9.out.store Hne.out.2 4 (.string sc))
   clear hP hB
   obtain⟨y0,y1,y2,y3,y4,y5,yl⟩:=cells6 H9.out.ke
   have fy:=H9.out.ke.frozen
   obtain⟨w10,Hw10⟩:∃ w10,Hid (w10=w9.setCell ⟨g5+1,4,none⟩ (.string sc)):=⟨_,rfl⟩
   rw[← Hw10.out] at H10
   go_upto_region 40 with (fail)
   rw[← Hw10.out]
   clear y0 y1 y2 y3 y4 y5 yl fy
   go_wp2_with (fail)
   refine(Hw5.out _ H10.out.p).mono ?_
   rintro e w11 ⟨row,D,rfl,hx,hP,hB⟩
   obtain⟨A2,m2,c2,rfl⟩:=ex_row6 hx
   have h11:=H10.out.step Hne.out.1 hP hB
   have hlt11:=h11.ke.lt
   have hs10:=H10.out.b.size
   have hs11:=hB.size
   obtain⟨y0,y1,y2,y3,y4,y5,yl⟩:=cells6 h11.ke
   have fy:=h11.ke.frozen
   have h12:=h11.store Hne.out.2 5 (.slice (some ⟨w11.heap.size,0,none⟩) 1 1)
   have hbc:But (fun k=>k=g5+1) w11 (w11.setCell ⟨g5+1,5,none⟩ (.slice (some ⟨w11.heap.size,0,none⟩) 1 1)):=but_cell (g:=g5+1) (But.refl _ _) 5 _
   have hx12:=hx.kept (Kept.of_but hbc fun k (hk:w10.heap.size≤k) e=>by have:=H10.out.ke.lt;omega)
   obtain⟨w12,Hw12⟩:∃ w12,Hid (w12=w11.setCell ⟨g5+1,5,none⟩ (.slice (some ⟨w11.heap.size,0,none⟩) 1 1)):=⟨_,rfl⟩
   have hz12:w12.heap.size=w11.heap.size:=by rw[Hw12.out,set_size]
   rw[← Hw12.out] at h12 hx12
   have hlit:=exs_lit (F:=Fr w30) (d:=D) (n:=1) (g:=w11.heap.size) (w:=w12) 32 [[.int .i64 ax.op,.int .i64 ax.n,.string ax.s,.string ax.name,.string ax.src,.slice A2 m2 c2]] [ax] hz12.symm (show w30.heap.size≤w11.heap.size by have:=Hs30.out;omega) rfl (by omega) rfl (fun k r x h1 h2=>by
    rcases k with _|k
    ·simp at h1 h2
     subst h1 h2
     exact ExAt.conv (fun k (hk:w10.heap.size≤k)=>by have:=Hs30.out;have:=H10.out.ke.lt;show w30.heap.size≤k;omega) (Kept.refl _ _) D (Nat.le_refl _) hx12
    ·simp at h1)
   simp only[List.flatten_cons,List.flatten_nil,List.append_nil] at hlit
   have hal:=(Below.refl w12.heap.size w12).alloc (Nat.le_refl _) (.cells #[.int .i64 ax.op,.int .i64 ax.n,.string ax.s,.string ax.name,.string ax.src,.slice A2 m2 c2] 32)
   have hown:(w12.alloc (.cells #[.int .i64 ax.op,.int .i64 ax.n,.string ax.s,.string ax.name,.string ax.src,.slice A2 m2 c2] 32)).ownsRow w12.heap.size 32 6 (.slice (some ⟨w12.heap.size,0,none⟩) 1 1) 1 [[.int .i64 ax.op,.int .i64 ax.n,.string ax.s,.string ax.name,.string ax.src,.slice A2 m2 c2]].flatten:=World.ownsRow_lit (base:=w12.heap.size) (e:=32) (size:=6) w12 #[.int .i64 ax.op,.int .i64 ax.n,.string ax.s,.string ax.name,.string ax.src,.slice A2 m2 c2] 1 (Nat.le_refl _) (by unfold maxLen;omega) rfl
   rw[hz12] at hown
   have hx13:=ExAt.turn (F':=fun b=>w30.heap.size≤b∧b≠w11.heap.size) (fun k hk (hf:w10.heap.size≤k)=>by have:=Hs30.out;have:=H10.out.ke.lt;constructor<;>omega) (Kept.of_below hal) D (Nat.le_refl _) hx12
   obtain⟨w13,Hw13⟩:∃ w13,Hid (w13=w12.alloc (.cells #[.int .i64 ax.op,.int .i64 ax.n,.string ax.s,.string ax.name,.string ax.src,.slice A2 m2 c2] 32)):=⟨_,rfl⟩
   have hz13:w13.heap.size=w11.heap.size+1:=by rw[Hw13.out];simp[hz12]
   have h13:Six6 g gw W sa w.heap.size (g5+1) w1 #[.int .i64 op,.int .i64 0,.string ⟨#[]⟩,.string nm,.string sc,.slice (some ⟨w11.heap.size,0,none⟩) 1 1] (w12.alloc (.cells #[.int .i64 ax.op,.int .i64 ax.n,.string ax.s,.string ax.name,.string ax.src,.slice A2 m2 c2] 32)):=⟨h12.p.below hal,h12.b.trans' (But.of_below hal),h12.kx.as_was (hal.block _ h12.kx.lt),h12.ke.as_was (hal.block _ h12.ke.lt)⟩
   rw[← Hw13.out] at hlit hown hx13 h13
   have Hx13:=Lhd (And.intro hlit (And.intro hown (And.intro hx13 (show w30.heap.size≤w11.heap.size∧g5+1<w11.heap.size∧w13.heap.size=w11.heap.size+1∧w1.heap.size≤g5∧g5+2=w30.heap.size by have:=Hs30.out;have:=Hgs.out;omega))))
   have H13:=Lhd h13
   clear hx hP hB h11 hlt11 hs10 hs11 h12 hbc hx12 hz12 hlit hal hown hx13 hz13 h13
   go_upto_region 41 with (fail)
   rw[← Hw12.out,← Hw13.out]
   clear y0 y1 y2 y3 y4 y5 yl fy
   obtain⟨y0,y1,y2,y3,y4,y5,yl⟩:=cells6 H13.out.ke
   rcases hjz with ⟨h0,hd⟩|⟨h0,hd⟩
   ·subst h0
    have hf:=Hf.out
    rw[if_pos rfl] at hf
    subst hf
    have Ht9:=Lhd (fun w' hw=>(show Calls Tryz.prog 111 #[.pointer (some ⟨g,0,none⟩),.string ⟨#[41]⟩] w' (ToldD g gw W (mustP W [str [41]] sa) (.tuple #[]) w') from Htake.out (str [41]) sa w' hw))
    go_wp2_with (fail)
    refine(Ht9.out _ H13.out.p).mono ?_
    rintro e w14 ⟨rfl,hP,hB⟩
    have h14:=H13.out.step Hne.out.1 hP hB
    have hlits:=ExsAt.kept Hx13.out.1 (kept_g hB (show ¬ w30.heap.size≤g by have:=Hz.out;have:=Hgs.out;have:=Hs30.out;omega))
    have h15:=h14.leave Hne.out.1
    have hl15:=ExsAt.kept hlits (kept_g (but_cell (But.refl (fun i=>i=g) w14) 2 (.int .i64 (wrap64 ((mustP W [str [41]] sa).deep-1)))) (show ¬ w30.heap.size≤g by have:=Hz.out;have:=Hgs.out;have:=Hs30.out;omega))
    obtain⟨B,n,c,c0,c1,c2',c3,c4,cg,cf⟩:=h14.p.cells
    obtain⟨w15,Hw15⟩:∃ w15,Hid (w15=w14.setCell ⟨g,2,none⟩ (.int .i64 (wrap64 ((mustP W [str [41]] sa).deep-1)))):=⟨_,rfl⟩
    rw[← Hw15.out] at h15 hl15
    have hx:=fold_ex (op:=21) (by decide) (by decide) Hok2.out.1 Hok2.out.2 hl15
    have hx:=ExAt.conv (F':=Fr w1) (fun k (hk:w30.heap.size≤k)=>by have:=Hs30.out;have:=Hgs.out;show w1.heap.size≤k;omega) (Kept.refl _ _) _ (Nat.le_refl _) hx
    obtain⟨hk,he1,he2⟩:=lay6_end (x:=.mk 21 0 nil0 nm sc [ax]) hx h15.p h15.b Hb1.out Hk1.out (Nat.le_refl _) Hz.out.1
    have H:=Lhd (And.intro he1 he2)
    have HK:=Lhd (And.intro h15.kx h15.ke)
    clear hP hB h14 hlits h15 hl15 hx hk he1 he2 c0 c1 c3 c4 y0 y1 y2 y3 y4 y5 yl
    go_upto_region 46 with (fail)
    rw[← Hw15.out]
    clear c2' cg cf
    obtain⟨x0,x1,x2,x3,x4,x5,xl⟩:=cells6 HK.out.1
    obtain⟨y0,y1,y2,y3,y4,y5,yl⟩:=cells6 HK.out.2
    have fx:=HK.out.1.frozen
    go_wp2
    rw[lay6_eq]
    exact bodyPost_ret (ret_ex Tryz.results67 rfl H.out.1 rfl) rfl H.out.2
   ·have hf:=Hf.out
    rw[if_neg h0] at hf
    subst hf
    have H0:=Lhd h0
    clear h0
    have Ht8:=Lhd (fun w' hw=>(show Calls Tryz.prog 111 #[.pointer (some ⟨g,0,none⟩),.string ⟨#[58]⟩] w' (ToldD g gw W (mustP W [str [58]] sa) (.tuple #[]) w') from Htake.out (str [58]) sa w' hw))
    go_wp2_with (fail)
    refine(Ht8.out _ H13.out.p).mono ?_
    rintro e w14 ⟨rfl,hP,hB⟩
    have hge14:=Hgea.out.trans (ge_must W (str [58]) sa)
    generalize mustP W [str [58]] sa=s14 at *
    have hec:=HE.out s14 hge14
    unfold ExprD at hec
    generalize E s14=b at *
    obtain⟨bx,sb⟩:=b
    simp only at hec
    have Hec:=Lhd hec
    have h14:=H13.out.step Hne.out.1 hP hB
    have hk14:=kept_g (F:=fun b=>w30.heap.size≤b∧b≠w11.heap.size) hB (show ¬ (w30.heap.size≤g∧g≠w11.heap.size) by have:=Hz.out;have:=Hgs.out;have:=Hs30.out;omega)
    have hx14:=Hx13.out.2.2.1.kept hk14
    clear y0 y1 y2 y3 y4 y5 yl
    have hdr:Below w14.heap.size w14 w14.drew:=(Below.refl _ _).drew
    have hd14:Six6 g gw W s14 w.heap.size (g5+1) w1 #[.int .i64 op,.int .i64 0,.string ⟨#[]⟩,.string nm,.string sc,.slice (some ⟨w11.heap.size,0,none⟩) 1 1] w14.drew:=h14.step Hne.out.1 (h14.p.below hdr) (But.of_below hdr)
    have hod:=own_but Hx13.out.2.1 (hB.trans' (But.of_below hdr)) (fun q hq e=>by
     have h1:=(Hx13.out.2.1.lt q hq).1
     have h2:=Hx13.out.2.2.2
     have h3:=Hz.out
     have e:q=g:=e
     omega)
    have hxd:=hx14.kept (Kept.of_below hdr)
    have hsz14:=hB.size
    have hs14:w11.heap.size+1≤w14.drew.heap.size:=by have:=Hx13.out.2.2.2;show _≤w14.heap.size;omega
    obtain⟨y0,y1,y2,y3,y4,y5,yl⟩:=cells6 h14.ke
    have Hd:=Lhd (And.intro hd14 (And.intro hod (And.intro hxd hs14)))
    clear hP hB hec h14 hk14 hx14 hdr hd14 hod hxd hsz14 hs14 hge14
    have hst:∀ (w15:World) (D15:Nat) (A15:Option Addr) (m15 c15:Nat),ExAt (Fr w14.drew) D15 w15 (row6 bx A15 m15 c15) bx→But (fun i=>i=g) w14.drew w15→DAt g gw W sb w15 →
      IsBlk w15 (g5+1) 32 #[.int .i64 op,.int .i64 0,.string ⟨#[]⟩,.string nm,.string sc,.slice (some ⟨w11.heap.size,0,none⟩) 1 1] ∧
      (w15.alloc (.cells #[.int .i64 bx.op,.int .i64 bx.n,.string bx.s,.string bx.name,.string bx.src,.slice A15 m15 c15] 32)).ownsRow w11.heap.size 32 6 (.slice (some ⟨w11.heap.size,0,none⟩) 1 1) 1 [[.int .i64 ax.op,.int .i64 ax.n,.string ax.s,.string ax.name,.string ax.src,.slice A2 m2 c2]].flatten ∧
      RowsAt (w15.alloc (.cells #[.int .i64 bx.op,.int .i64 bx.n,.string bx.s,.string bx.name,.string bx.src,.slice A15 m15 c15] 32)) 6 (some ⟨w15.heap.size,0,none⟩) 1 1 [[.int .i64 bx.op,.int .i64 bx.n,.string bx.s,.string bx.name,.string bx.src,.slice A15 m15 c15]] ∧
      (∀ r∈([[.int .i64 bx.op,.int .i64 bx.n,.string bx.s,.string bx.name,.string bx.src,.slice A15 m15 c15]]:List (List Value)),r.length=6)∧(∀ r∈([[.int .i64 bx.op,.int .i64 bx.n,.string bx.s,.string bx.name,.string bx.src,.slice A15 m15 c15]]:List (List Value)),∀ u∈r,u.oneCell'=true) ∧
      Six6 g gw W sb w.heap.size (g5+1) w1 #[.int .i64 op,.int .i64 0,.string ⟨#[]⟩,.string nm,.string sc,.slice (some ⟨w11.heap.size,0,none⟩) 1 1] (w15.alloc (.cells #[.int .i64 bx.op,.int .i64 bx.n,.string bx.s,.string bx.name,.string bx.src,.slice A15 m15 c15] 32)) ∧
      w11.heap.size≤(w15.alloc (.cells #[.int .i64 bx.op,.int .i64 bx.n,.string bx.s,.string bx.name,.string bx.src,.slice A15 m15 c15] 32)).heap.size∧ExAt (fun b=>w30.heap.size≤b∧b≠w11.heap.size) D (w15.alloc (.cells #[.int .i64 bx.op,.int .i64 bx.n,.string bx.s,.string bx.name,.string bx.src,.slice A15 m15 c15] 32)) [.int .i64 ax.op,.int .i64 ax.n,.string ax.s,.string ax.name,.string ax.src,.slice A2 m2 c2] ax∧ExAt (fun b=>w30.heap.size≤b∧b≠w11.heap.size) D15 (w15.alloc (.cells #[.int .i64 bx.op,.int .i64 bx.n,.string bx.s,.string bx.name,.string bx.src,.slice A15 m15 c15] 32)) [.int .i64 bx.op,.int .i64 bx.n,.string bx.s,.string bx.name,.string bx.src,.slice A15 m15 c15] bx:=by
     intro w15 D15 A15 m15 c15 hx15 hB15 hP15
     have h15:=Hd.out.1.step Hne.out.1 hP15 hB15
     have hal:=(Below.refl w15.heap.size w15).alloc (Nat.le_refl _) (.cells #[.int .i64 bx.op,.int .i64 bx.n,.string bx.s,.string bx.name,.string bx.src,.slice A15 m15 c15] 32)
     have hs15:=hB15.size
     have hsd:=Hd.out.2.2.2
     refine⟨h15.ke,own_below (own_but Hd.out.2.1 hB15 (fun q hq e=>?_)) hal,RowsAt.lit' _ _ 1 rfl rfl (by simp) rfl (by unfold maxLen;omega),by simp,?_,⟨h15.p.below hal,h15.b.trans' (But.of_below hal),h15.kx.as_was (hal.block _ h15.kx.lt),h15.ke.as_was (hal.block _ h15.ke.lt)⟩,by have:=hal.size;omega,?_,?_⟩
     ·have h1:=(Hd.out.2.1.lt q hq).1
      have h2:=Hx13.out.2.2.2
      have h3:=Hz.out
      have e:q=g:=e
      omega
     ·intro r hr
      simp only[List.mem_singleton] at hr
      subst hr
      exact ExAt.one hx15
     ·exact(Hd.out.2.2.1.kept (kept_g hB15 (show ¬ (w30.heap.size≤g∧g≠w11.heap.size) by have:=Hz.out;have:=Hgs.out;have:=Hs30.out;omega))).below hal
     ·exact ExAt.conv (fun k (hk:w14.drew.heap.size≤k)=>by have:=Hx13.out.2.2.2;constructor<;>omega) (Kept.of_below hal) D15 (Nat.le_refl _) hx15
    have Hst:=Lhd hst
    clear hst
    have hmx:1+1≤maxLen:=by unfold maxLen;omega
    go_upto_region 43 with (fail)
    go_region_law (first
     | (refine stepAppP (base:=w11.heap.size) (xs:=[[.int .i64 ax.op,.int .i64 ax.n,.string ax.s,.string ax.name,.string ax.src,.slice A2 m2 c2]]) (news:=[[.int .i64 bx.op,.int .i64 bx.n,.string bx.s,.string bx.name,.string bx.src,.slice A15 m15 c15]]) rfl rfl tyExp rfl s2 rfl s3 s4 s5 hmx (by omega) s7 ?_;intro A6 c6 w6' hown6 hbut6 hf6;have hk36:=s6.ke.as_was (hbut6.block _ s6.ke.lt (by have:=Hx13.out.2.2.2;simp;omega));obtain⟨v0,v1,v2,v3,v4,v5,vl⟩:=cells6 hk36;have f36:=hk36.frozen)
     | (go_simp;go_at_call 27;refine(Hec.out _ Hd.out.1.p).mono ?_;rintro e15 w15 ⟨row15,D15,rfl,hx15,hP15,hB15⟩;obtain⟨A15,m15,c15,rfl⟩:=ex_row6 hx15;obtain⟨s1',s2,s3,s4,s5,s6,s7,s8,s9⟩:=Hst.out _ _ _ _ _ hx15 hB15 hP15;obtain⟨z0,z1,z2,z3,z4,z5,zl⟩:=cells6 s1'))
    all_goals
     have hb6:But (fun k=>k=w11.heap.size) _ w6':=hbut6.mono (fun i hi=>.inl (by simpa using hi.symm))
     have hl6:=two_grown hown6 hb6 hf6 s8 s9 Hx13.out.2.2.2.1 (by have:=Hx13.out.2.2.2;omega)
     have h6:Six6 g gw W sb w.heap.size (g5+1) w1 #[.int .i64 op,.int .i64 0,.string ⟨#[]⟩,.string nm,.string sc,.slice (some ⟨w11.heap.size,0,none⟩) 1 1] w6':=⟨s6.p.elsewhere hb6 (by have:=Hz.out;have:=Hx13.out.2.2.2;omega) (by have:=Hz.out;have:=Hx13.out.2.2.2;omega),s6.b.trans hb6 (fun i hi=>.inr (by have:=Hx13.out.2.2.2;omega)),s6.kx.as_was (hb6.block _ s6.kx.lt (by have:=Hz.out;have:=Hx13.out.2.2.2;omega)),hk36⟩
     have h7:=h6.store Hne.out.2 5 (.slice A6 2 c6)
     have hbc:But (fun k=>k=g5+1) w6' (w6'.setCell ⟨g5+1,5,none⟩ (.slice A6 2 c6)):=but_cell (g:=g5+1) (But.refl _ _) 5 _
     have hl7:=ExsAt.kept hl6 (Kept.of_but hbc fun k (hk:w30.heap.size≤k) e=>by have:=Hs30.out;omega)
     obtain⟨w7',Hw7'⟩:∃ w7',Hid (w7'=w6'.setCell ⟨g5+1,5,none⟩ (.slice A6 2 c6)):=⟨_,rfl⟩
     rw[← Hw7'.out] at h7 hl7
     have H16:=Lhd (And.intro h7 hl7)
     clear hb6 hl6 h6 h7 hbc hl7 s1' s2 s3 s4 s5 s6 s7 s8 s9 hk36 hown6 hbut6 hf6 hx15 hP15 hB15 z0 z1 z2 z3 z4 z5 zl y0 y1 y2 y3 y4 y5 yl
     have Ht9:=Lhd (fun w' hw=>(show Calls Tryz.prog 111 #[.pointer (some ⟨g,0,none⟩),.string ⟨#[41]⟩] w' (ToldD g gw W (mustP W [str [41]] sb) (.tuple #[]) w') from Htake.out (str [41]) sb w' hw))
     go_upto_region 44 with (fail)
     rw[← Hw7'.out]
     clear v0 v1 v2 v3 v4 v5 vl f36
     go_wp2_with (fail)
     refine(Ht9.out _ H16.out.1.p).mono ?_
     rintro e w17 ⟨rfl,hP,hB⟩
     have h14:=H16.out.1.step Hne.out.1 hP hB
     have hlits:=ExsAt.kept H16.out.2 (kept_g hB (show ¬ w30.heap.size≤g by have:=Hz.out;have:=Hgs.out;have:=Hs30.out;omega))
     have h15:=h14.leave Hne.out.1
     have hl15:=ExsAt.kept hlits (kept_g (but_cell (But.refl (fun i=>i=g) w17) 2 (.int .i64 (wrap64 ((mustP W [str [41]] sb).deep-1)))) (show ¬ w30.heap.size≤g by have:=Hz.out;have:=Hgs.out;have:=Hs30.out;omega))
     obtain⟨B,n,c,c0,c1,c2',c3,c4,cg,cf⟩:=h14.p.cells
     obtain⟨w18,Hw18⟩:∃ w18,Hid (w18=w17.setCell ⟨g,2,none⟩ (.int .i64 (wrap64 ((mustP W [str [41]] sb).deep-1)))):=⟨_,rfl⟩
     rw[← Hw18.out] at h15 hl15
     have hx:=fold_ex (op:=op) Hop.out.1 Hop.out.2 Hok2.out.1 Hok2.out.2 hl15
     have hx:=ExAt.conv (F':=Fr w1) (fun k (hk:w30.heap.size≤k)=>by have:=Hs30.out;have:=Hgs.out;show w1.heap.size≤k;omega) (Kept.refl _ _) _ (Nat.le_refl _) hx
     obtain⟨hk,he1,he2⟩:=lay6_end (x:=.mk op 0 nil0 nm sc [ax,bx]) hx h15.p h15.b Hb1.out Hk1.out (Nat.le_refl _) Hz.out.1
     have H:=Lhd (And.intro he1 he2)
     have HK:=Lhd (And.intro h15.kx h15.ke)
     clear hP hB h14 hlits h15 hl15 hx hk he1 he2 c0 c1 c3 c4
     go_upto_region 46 with (fail)
     rw[← Hw18.out]
     clear c2' cg cf
     obtain⟨x0,x1,x2,x3,x4,x5,xl⟩:=cells6 HK.out.1
     obtain⟨y0,y1,y2,y3,y4,y5,yl⟩:=cells6 HK.out.2
     have fx:=HK.out.1.frozen
     go_wp2
     rw[lay6_eq]
     exact bodyPost_ret (ret_ex Tryz.results67 rfl H.out.1 rfl) rfl H.out.2
end Go.Proofs.YtdgapmnojmhllaaGreatDoor
