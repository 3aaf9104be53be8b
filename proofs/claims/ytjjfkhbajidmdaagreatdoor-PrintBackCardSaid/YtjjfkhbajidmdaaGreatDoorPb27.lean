/- Parts of this proof, one behind the other: ParG, ParH, ParI, ParJ. -/
import Derived.Test.YtjjfkhbajidmdaaGreatDoorPb26
set_option maxRecDepth 1000000
set_option maxHeartbeats 40000000
namespace Go.Proofs.YtjjfkhbajidmdaaGreatDoor
open Go.RowKit Go.Afx
theorem Uf (gp gc gw:Nat) (W:aV) (one:au→Ex×au) (s:au) (op:Int) (w:World) (h:aW gp gc gw W s w) (h0:0≤op) (h1:op≤100) (hT:∀ w2,aW gp gc gw W (aG s) w2→Calls Tryz.prog 167 #[.pointer (some ⟨gp,0,none⟩)] w2 (jv gp gc gw W (one (aG s)).2 (one (aG s)).1 w2)) :
  Calls Tryz.prog 185 #[.pointer (some ⟨gp,0,none⟩),.int .i64 op,.func (.func 167) #[.pointer (some ⟨gp,0,none⟩)] #[]] w (jv gp gc gw W (dw (one (aG s)).2) (tC op (one (aG s)).1) w):=by
 have hz:=And.intro h.lt.1 (And.intro h.lt.2 h.wl)
 have hb1:=(Below.refl w.heap.size w).alloc (Nat.le_refl _) (.cells zero6 55)
 have hk1:=af.laid w 55 zero6
 have He:=ae (kX gp gc gw W s _ (h.below hb1))
 generalize hfin:one (aG s)=fin at *
 have Hl:=ae (fun w2 (hW:aW gp gc gw W fin.2 w2)=>kW gp gc gw W fin.2 w2 hW)
 have HT:=ae hT
 have Hb1:=ae hb1
 have Hk1:=ae hk1
 have Hz:=ae hz
 have H01:=ae (And.intro h0 h1)
 clear h hz hb1 hk1 hT hfin h0 h1
 obtain⟨w1,Hw1⟩:∃ w1,Hid (w1=w.alloc (.cells zero6 55)):=⟨_,rfl⟩
 have hsz:w1.heap.size=w.heap.size+1:=by rw[Hw1.out];simp
 rw[← Hw1.out] at He Hb1 Hk1
 go_enter Tryz.func185,Tryz.ntmps185
 go_upto_region 1 with (fail)
 rw[← Hw1.out]
 go_wp2_with (fail)
 refine He.out.mono ?_
 rintro e w2 ⟨rfl,hP,hB⟩
 have H2:=ae (And.intro hP hB)
 clear hP hB
 go_wp2_with (fail)
 refine(HT.out _ H2.out.1).mono ?_
 rintro e w3 ⟨row,D,rfl,hx,hP,hB⟩
 obtain⟨A2,m2,c2,rfl⟩:=bP hx
 have hB3:=H2.out.2.trans' hB
 have hz3:=hB3.size
 have Kr:=xO (F:=Fr w1) (d:=D) (n:=1) (g:=w3.heap.size) (w:=w3) 55 [[.int .i64 fin.1.op,.int .i64 fin.1.n,.string fin.1.s,.string fin.1.name,.string fin.1.src,.slice A2 m2 c2]] [fin.1] rfl hz3 rfl (by omega) rfl (fun k r x h1 h2=>by
  rcases k with _|k
  ·simp at h1 h2
   subst h1 h2
   exact aC.conv (fun k (hk:w2.heap.size≤k)=>by have:=H2.out.2.size;show w1.heap.size≤k;omega) (Kept.refl _ _) D (Nat.le_refl _) hx
  ·simp at h1)
 have hop:=Ua H01.out.1 H01.out.2 Kr
 simp only[List.flatten_cons,List.flatten_nil,List.append_nil] at hop
 have hb4:=(Below.refl w3.heap.size w3).alloc (Nat.le_refl _) (.cells #[.int .i64 fin.1.op,.int .i64 fin.1.n,.string fin.1.s,.string fin.1.name,.string fin.1.src,.slice A2 m2 c2] 55)
 have hb5:=(Below.refl (w3.alloc (.cells #[.int .i64 fin.1.op,.int .i64 fin.1.n,.string fin.1.s,.string fin.1.name,.string fin.1.src,.slice A2 m2 c2] 55)).heap.size (w3.alloc (.cells #[.int .i64 fin.1.op,.int .i64 fin.1.n,.string fin.1.s,.string fin.1.name,.string fin.1.src,.slice A2 m2 c2] 55))).alloc (Nat.le_refl _) (.cells #[.int .i64 op,.int .i64 0,.string ⟨#[]⟩,.string ⟨#[]⟩,.string ⟨#[]⟩,.slice (some ⟨w3.heap.size,0,none⟩) 1 1] 55)
 have hx5:=hop.below hb5
 have pz:=(hP.below hb4).below hb5
 have hk5:af ((w3.alloc (.cells #[.int .i64 fin.1.op,.int .i64 fin.1.n,.string fin.1.s,.string fin.1.name,.string fin.1.src,.slice A2 m2 c2] 55)).alloc (.cells #[.int .i64 op,.int .i64 0,.string ⟨#[]⟩,.string ⟨#[]⟩,.string ⟨#[]⟩,.slice (some ⟨w3.heap.size,0,none⟩) 1 1] 55)) (w3.heap.size+1) 55 #[.int .i64 op,.int .i64 0,.string ⟨#[]⟩,.string ⟨#[]⟩,.string ⟨#[]⟩,.slice (some ⟨w3.heap.size,0,none⟩) 1 1]:=jr (by simp)
 have iP:=(hB3.alloc (.cells #[.int .i64 fin.1.op,.int .i64 fin.1.n,.string fin.1.s,.string fin.1.name,.string fin.1.src,.slice A2 m2 c2] 55)).alloc (.cells #[.int .i64 op,.int .i64 0,.string ⟨#[]⟩,.string ⟨#[]⟩,.string ⟨#[]⟩,.slice (some ⟨w3.heap.size,0,none⟩) 1 1] 55)
 have H5:=ae (And.intro hx5 (And.intro pz (And.intro hk5 (And.intro iP hz3))))
 clear hx hP hB hB3 hz3 Kr hop hb4 hb5 hx5 pz hk5 iP
 go_wp2_with (fail)
 refine(Hl.out _ H5.out.2.1).mono ?_
 rintro e w6 ⟨rfl,hP,hB⟩
 have vS:=H5.out.2.2.2.1.trans' hB
 have hk6:=ah Hk1.out vS (by have:=Hz.out;omega)
 have jk:=ah H5.out.2.2.1 hB (by have:=Hz.out;have:=H5.out.2.2.2.2;omega)
 obtain⟨x0,x1,x2,x3,x4,x5,xl⟩:=aH hk6
 obtain⟨y0,y1,y2,y3,y4,y5,yl⟩:=aH jk
 have f6:=hk6.frozen
 have hx6:=H5.out.1.kept (fK (gp:=gp) (gc:=gc) hB (fun k (hk:w1.heap.size≤k)=>by have:=Hz.out;omega))
 have H:=ae (eH (x:=tC op fin.1) (w3:=w1) hx6 hP ((But.of_below Hb1.out).trans' vS) hk6 (Nat.le_refl _) (by omega) Hz.out)
 clear hP hB vS hk6 jk hx6
 go_wp2
 rw[bJ]
 exact bodyPost_ret (fA Tryz.results185 rfl H.out.1 rfl) rfl H.out.2
theorem Kt (gp gc gw:Nat) (W:aV) (one:au→Ex×au) (s:au) (op:Int) (w:World) (h:aW gp gc gw W s w) (h0:0≤op) (h1:op≤100) (hT:∀ w2,aW gp gc gw W (aG s) w2→Calls Tryz.prog 195 #[.pointer (some ⟨gp,0,none⟩)] w2 (jv gp gc gw W (one (aG s)).2 (one (aG s)).1 w2)) :
  Calls Tryz.prog 185 #[.pointer (some ⟨gp,0,none⟩),.int .i64 op,.func (.func 195) #[.pointer (some ⟨gp,0,none⟩)] #[]] w (jv gp gc gw W (dw (one (aG s)).2) (tC op (one (aG s)).1) w):=by
 have hz:=And.intro h.lt.1 (And.intro h.lt.2 h.wl)
 have hb1:=(Below.refl w.heap.size w).alloc (Nat.le_refl _) (.cells zero6 55)
 have hk1:=af.laid w 55 zero6
 have He:=ae (kX gp gc gw W s _ (h.below hb1))
 generalize hfin:one (aG s)=fin at *
 have Hl:=ae (fun w2 (hW:aW gp gc gw W fin.2 w2)=>kW gp gc gw W fin.2 w2 hW)
 have HT:=ae hT
 have Hb1:=ae hb1
 have Hk1:=ae hk1
 have Hz:=ae hz
 have H01:=ae (And.intro h0 h1)
 clear h hz hb1 hk1 hT hfin h0 h1
 obtain⟨w1,Hw1⟩:∃ w1,Hid (w1=w.alloc (.cells zero6 55)):=⟨_,rfl⟩
 have hsz:w1.heap.size=w.heap.size+1:=by rw[Hw1.out];simp
 rw[← Hw1.out] at He Hb1 Hk1
 go_enter Tryz.func185,Tryz.ntmps185
 go_upto_region 1 with (fail)
 rw[← Hw1.out]
 go_wp2_with (fail)
 refine He.out.mono ?_
 rintro e w2 ⟨rfl,hP,hB⟩
 have H2:=ae (And.intro hP hB)
 clear hP hB
 go_wp2_with (fail)
 refine(HT.out _ H2.out.1).mono ?_
 rintro e w3 ⟨row,D,rfl,hx,hP,hB⟩
 obtain⟨A2,m2,c2,rfl⟩:=bP hx
 have hB3:=H2.out.2.trans' hB
 have hz3:=hB3.size
 have Kr:=xO (F:=Fr w1) (d:=D) (n:=1) (g:=w3.heap.size) (w:=w3) 55 [[.int .i64 fin.1.op,.int .i64 fin.1.n,.string fin.1.s,.string fin.1.name,.string fin.1.src,.slice A2 m2 c2]] [fin.1] rfl hz3 rfl (by omega) rfl (fun k r x h1 h2=>by
  rcases k with _|k
  ·simp at h1 h2
   subst h1 h2
   exact aC.conv (fun k (hk:w2.heap.size≤k)=>by have:=H2.out.2.size;show w1.heap.size≤k;omega) (Kept.refl _ _) D (Nat.le_refl _) hx
  ·simp at h1)
 have hop:=Ua H01.out.1 H01.out.2 Kr
 simp only[List.flatten_cons,List.flatten_nil,List.append_nil] at hop
 have hb4:=(Below.refl w3.heap.size w3).alloc (Nat.le_refl _) (.cells #[.int .i64 fin.1.op,.int .i64 fin.1.n,.string fin.1.s,.string fin.1.name,.string fin.1.src,.slice A2 m2 c2] 55)
 have hb5:=(Below.refl (w3.alloc (.cells #[.int .i64 fin.1.op,.int .i64 fin.1.n,.string fin.1.s,.string fin.1.name,.string fin.1.src,.slice A2 m2 c2] 55)).heap.size (w3.alloc (.cells #[.int .i64 fin.1.op,.int .i64 fin.1.n,.string fin.1.s,.string fin.1.name,.string fin.1.src,.slice A2 m2 c2] 55))).alloc (Nat.le_refl _) (.cells #[.int .i64 op,.int .i64 0,.string ⟨#[]⟩,.string ⟨#[]⟩,.string ⟨#[]⟩,.slice (some ⟨w3.heap.size,0,none⟩) 1 1] 55)
 have hx5:=hop.below hb5
 have pz:=(hP.below hb4).below hb5
 have hk5:af ((w3.alloc (.cells #[.int .i64 fin.1.op,.int .i64 fin.1.n,.string fin.1.s,.string fin.1.name,.string fin.1.src,.slice A2 m2 c2] 55)).alloc (.cells #[.int .i64 op,.int .i64 0,.string ⟨#[]⟩,.string ⟨#[]⟩,.string ⟨#[]⟩,.slice (some ⟨w3.heap.size,0,none⟩) 1 1] 55)) (w3.heap.size+1) 55 #[.int .i64 op,.int .i64 0,.string ⟨#[]⟩,.string ⟨#[]⟩,.string ⟨#[]⟩,.slice (some ⟨w3.heap.size,0,none⟩) 1 1]:=jr (by simp)
 have iP:=(hB3.alloc (.cells #[.int .i64 fin.1.op,.int .i64 fin.1.n,.string fin.1.s,.string fin.1.name,.string fin.1.src,.slice A2 m2 c2] 55)).alloc (.cells #[.int .i64 op,.int .i64 0,.string ⟨#[]⟩,.string ⟨#[]⟩,.string ⟨#[]⟩,.slice (some ⟨w3.heap.size,0,none⟩) 1 1] 55)
 have H5:=ae (And.intro hx5 (And.intro pz (And.intro hk5 (And.intro iP hz3))))
 clear hx hP hB hB3 hz3 Kr hop hb4 hb5 hx5 pz hk5 iP
 go_wp2_with (fail)
 refine(Hl.out _ H5.out.2.1).mono ?_
 rintro e w6 ⟨rfl,hP,hB⟩
 have vS:=H5.out.2.2.2.1.trans' hB
 have hk6:=ah Hk1.out vS (by have:=Hz.out;omega)
 have jk:=ah H5.out.2.2.1 hB (by have:=Hz.out;have:=H5.out.2.2.2.2;omega)
 obtain⟨x0,x1,x2,x3,x4,x5,xl⟩:=aH hk6
 obtain⟨y0,y1,y2,y3,y4,y5,yl⟩:=aH jk
 have f6:=hk6.frozen
 have hx6:=H5.out.1.kept (fK (gp:=gp) (gc:=gc) hB (fun k (hk:w1.heap.size≤k)=>by have:=Hz.out;omega))
 have H:=ae (eH (x:=tC op fin.1) (w3:=w1) hx6 hP ((But.of_below Hb1.out).trans' vS) hk6 (Nat.le_refl _) (by omega) Hz.out)
 clear hP hB vS hk6 jk hx6
 go_wp2
 rw[bJ]
 exact bodyPost_ret (fA Tryz.results185 rfl H.out.1 rfl) rfl H.out.2
theorem bC (W:aV) (t:ByteArray) (s:au):ay W t s=(false,s)∨(ay W t s=(true,s.on)∧s.bad=false∧s.at_<W.l.length):=by
 unfold ay
 split
 ·rename_i h
  unfold jO at h
  simp only[Bool.and_eq_true,Bool.not_eq_true'] at h
  exact .inr ⟨rfl,h.1,Io h.2⟩
 ·exact .inl rfl
theorem Ug {W:aV} {E:au→Ex×au} {k:Nat} {s:au} (h:ay W (str [45]) s=(false,s)):dG W E (k+1) s=eY W E s:=by unfold dG;simp[h]
theorem Qu {W:aV} {E:au→Ex×au} {k:Nat} {s:au} (h:ay W (str [45]) s=(true,s.on)):dG W E (k+1) s=(tC 20 (dG W E k (aG s.on)).1,dw (dG W E k (aG s.on)).2):=by
 conv=>lhs;unfold dG
 simp[h]
theorem MW (gp gc gw:Nat) (W:aV) (E:au→Ex×au) (m:Nat) (hS:fB gp gc gw W 196 (eY W E) m):∀ (k:Nat),1≤k→∀ (s:au) (w:World),aW gp gc gw W s w→Fit W k s→Fit W m s →
  Calls Tryz.prog 195 #[.pointer (some ⟨gp,0,none⟩)] w (jv gp gc gw W (dG W E k s).2 (dG W E k s).1 w):=by
 intro k
 induction k with
 | zero=>intro h;omega
 | succ k ih =>
  intro _ s w h hf hfm
  have hz:=And.intro h.lt.1 (And.intro h.lt.2 h.wl)
  have hb1:=(Below.refl w.heap.size w).alloc (Nat.le_refl _) (.cells zero6 55)
  have hk1:=af.laid w 55 zero6
  have hm:=gX gp gc gw W s (str [45]) _ (h.below hb1)
  have hsz:(w.alloc (.cells zero6 55)).heap.size=w.heap.size+1:=by simp
  obtain⟨w1,Hw1⟩:∃ w1,Hid (w1=w.alloc (.cells zero6 55)):=⟨_,rfl⟩
  rw[← Hw1.out] at hb1 hk1 hm hsz
  have Hb1:=ae hb1
  have Hk1:=ae hk1
  have Hz:=ae hz
  rcases bC W (str [45]) s with hc|⟨hc,hbad,hat⟩
  ·rw[hc] at hm
   rw[Ug hc]
   simp only[str] at hm
   have Hm:=ae hm
   have HS:=ae (fun w2 hW=>hS s w2 hW hfm)
   clear hb1 hk1 hz h hf hfm hm hc ih hS
   generalize eY W E s=fin at *
   go_enter Tryz.func195,Tryz.ntmps195
   go_upto_region 1 with (fail)
   rw[← Hw1.out]
   go_wp2_with (fail)
   refine Hm.out.mono ?_
   rintro e w2 ⟨rfl,hP,hB⟩
   have H2:=ae (And.intro hP hB)
   clear hP hB
   go_wp2_with (fail)
   refine(HS.out _ H2.out.1).mono ?_
   rintro e w3 ⟨row,D,rfl,hx,hP,hB⟩
   obtain⟨A2,m2,c2,rfl⟩:=bP hx
   have hB3:=H2.out.2.trans' hB
   have hk3:=ah Hk1.out hB3 (by have:=Hz.out;omega)
   obtain⟨x0,x1,x2,x3,x4,x5,xl⟩:=aH hk3
   have f3:=hk3.frozen
   have hs:=H2.out.2.size
   have H:=ae (eH hx hP ((But.of_below Hb1.out).trans' hB3) hk3 (Nat.le_refl _) (by omega) Hz.out)
   clear hx hP hB hB3 hk3 hs
   go_wp2
   rw[bJ]
   exact bodyPost_ret (fA Tryz.results195 rfl H.out.1 rfl) rfl H.out.2
  ·rw[hc] at hm
   rw[Qu hc]
   simp only[str] at hm
   have hf1:Fit W k s.on:=Fit.on hf
   have hk0:1≤k:=by
    rcases hf1 with h1|h1
    ·rw[show s.on.bad=s.bad from rfl,hbad] at h1;cases h1
    ·have:s.on.at_=s.at_+1:=rfl
     omega
   have hih:=fun w2 hW=>ih hk0 (aG s.on) w2 hW (hf1.ge (dW _)) ((hfm.ge (uK s)).ge (dW _))
   have Ha:=ae (fun w2 hW=>Kt gp gc gw W (dG W E k) s.on 20 w2 hW (by omega) (by omega) hih)
   have Hm:=ae hm
   clear hb1 hk1 hz h hf hfm hm hc ih hS hih hf1 hk0
   generalize dG W E k (aG s.on)=fin at *
   go_enter Tryz.func195,Tryz.ntmps195
   go_upto_region 1 with (fail)
   rw[← Hw1.out]
   go_wp2_with (fail)
   refine Hm.out.mono ?_
   rintro e w2 ⟨rfl,hP,hB⟩
   have H2:=ae (And.intro hP hB)
   clear hP hB
   go_wp2_with (fail)
   refine(Ha.out _ H2.out.1).mono ?_
   rintro e w3 ⟨row,D,rfl,hx,hP,hB⟩
   obtain⟨A2,m2,c2,rfl⟩:=bP hx
   have hB3:=H2.out.2.trans' hB
   have hk3:=ah Hk1.out hB3 (by have:=Hz.out;omega)
   obtain⟨x0,x1,x2,x3,x4,x5,xl⟩:=aH hk3
   have f3:=hk3.frozen
   have hs:=H2.out.2.size
   have H:=ae (eH hx hP ((But.of_below Hb1.out).trans' hB3) hk3 (Nat.le_refl _) (by omega) Hz.out)
   clear hx hP hB hB3 hk3 hs
   go_wp2
   rw[bJ]
   exact bodyPost_ret (fA Tryz.results195 rfl H.out.1 rfl) rfl H.out.2
theorem DU (W:aV) (s:au):Fit W W.fuel s:=.inr (by unfold aV.fuel;omega)
theorem Qv (gp gc gw:Nat) (W:aV) (E:au→Ex×au) (m:Nat) (hS:fB gp gc gw W 196 (eY W E) m):fB gp gc gw W 195 (dG W E W.fuel) m :=
 fun s w h hf=>MW gp gc gw W E m hS W.fuel (by unfold aV.fuel;omega) s w h (DU W s) hf
theorem aea {W:aV} {E:au→Ex×au} {k:Nat} {s:au} (h:ay W (str [110,111,116]) s=(false,s)):notP W E (k+1) s=DK W E s:=by unfold notP;simp[h]
theorem aa8 {W:aV} {E:au→Ex×au} {k:Nat} {s:au} (h:ay W (str [110,111,116]) s=(true,s.on)):notP W E (k+1) s=(tC 19 (notP W E k (aG s.on)).1,dw (notP W E k (aG s.on)).2):=by
 conv=>lhs;unfold notP
 simp[h]
theorem aeb (W:aV) (E:au→Ex×au) (s:au):DK W E s=if (jH W ji (sumP W E s).2).1=0 then ((sumP W E s).1,(jH W ji (sumP W E s).2).2) else (cO (jH W ji (sumP W E s).2).1 (sumP W E s).1 (sumP W E (jH W ji (sumP W E s).2).2).1,(sumP W E (jH W ji (sumP W E s).2).2).2):=rfl
theorem aa9 (gp gc gw:Nat) (W:aV) (E:au→Ex×au) (m:Nat) (hS:fB gp gc gw W 186 (sumP W E) m) (hU:∀ s,Ge s (sumP W E s).2) (s:au) (w:World) (h:aW gp gc gw W s w) (hf:Fit W m s) (hno:ay W (str [110,111,116]) s=(false,s)) :
  Calls Tryz.prog 167 #[.pointer (some ⟨gp,0,none⟩)] w (jv gp gc gw W (DK W E s).2 (DK W E s).1 w):=by
 have hz:=And.intro h.lt.1 (And.intro h.lt.2 h.wl)
 have hb1:=(Below.refl w.heap.size w).alloc (Nat.le_refl _) (.cells zero6 55)
 have hk1:=af.laid w 55 zero6
 have hm:=gX gp gc gw W s (str [110,111,116]) _ (h.below hb1)
 have hsz:(w.alloc (.cells zero6 55)).heap.size=w.heap.size+1:=by simp
 obtain⟨w1,Hw1⟩:∃ w1,Hid (w1=w.alloc (.cells zero6 55)):=⟨_,rfl⟩
 rw[← Hw1.out] at hb1 hk1 hm hsz
 have Hb1:=ae hb1
 have Hk1:=ae hk1
 have Hz:=ae hz
 rw[hno] at hm
 rw[aeb]
 have HS:=ae (fun w2 hW=>hS s w2 hW hf)
 have hfit:=hf.ge (hU s)
 have Hop:=ae (fun (A B:Option Addr) (w2:World) (hW:aW gp gc gw W (sumP W E s).2 w2) (hl:HY gp gc w2 A 6 B 6 ji)=>DR gp gc gw W (sumP W E s).2 ji A B 6 6 6 w2 hW hl rfl)
 have HS2:=ae (fun w2 hW=>hS (jH W ji (sumP W E s).2).2 w2 hW (hfit.ge (KR W ji _)))
 have wW:=ae (xP W (sumP W E s).2 ji)
 generalize sumP W E s=fin at *
 obtain⟨x,s2⟩:=fin
 simp only[str] at hm
 have Hm:=ae hm
 clear hb1 hk1 hz h hf hm hS hU hfit hno
 generalize hop:jH W ji s2=r at *
 obtain⟨op,s3⟩:=r
 simp only at HS2 wW Hop
 clear hop
 generalize agm:(if op=0 then (x,s3) else (cO op x (sumP W E s3).1,(sumP W E s3).2))=fin2
 have agn:=ae agm
 have jM:=ae hsz
 clear agm hsz
 have akz:op≠0→0≤op∧op≤100:=fun h0=>by
  rcases wW.out with h1|⟨p,hp,h1,_⟩
  ·simp at h1;exact absurd h1.1 h0
  ·simp at h1
   have h2:∀ p∈ji,0≤p.2∧p.2≤100:=by unfold ji;decide
   rw[h1.1];exact h2 p hp
 have ann:=ae akz
 clear akz wW
 go_enter Tryz.func167,Tryz.ntmps167
 go_upto_region 1 with (fail)
 rw[← Hw1.out]
 go_wp2_with (fail)
 refine Hm.out.mono ?_
 rintro e w2 ⟨rfl,hP,hB⟩
 have H2:=ae (And.intro hP hB)
 clear hP hB
 go_wp2_with (fail)
 refine(HS.out _ H2.out.1).mono ?_
 rintro e w3 ⟨row,D,rfl,hx,hP,hB⟩
 obtain⟨A2,m2,c2,rfl⟩:=bP hx
 have hB3:=H2.out.2.trans' hB
 have hs3:=hB3.size
 have hal:=(Below.refl w3.heap.size w3).alloc (Nat.le_refl _) (.cells #[.int .i64 x.op,.int .i64 x.n,.string x.s,.string x.name,.string x.src,.slice A2 m2 c2] 55)
 have hk3:af (w3.alloc (.cells #[.int .i64 x.op,.int .i64 x.n,.string x.s,.string x.name,.string x.src,.slice A2 m2 c2] 55)) w3.heap.size 55 #[.int .i64 x.op,.int .i64 x.n,.string x.s,.string x.name,.string x.src,.slice A2 m2 c2]:=af.laid _ _ _
 have hz3:gp<w3.heap.size∧gc<w3.heap.size∧gw<w3.heap.size:=by have:=Hz.out;have:=jM.out;omega
 have Il:=ae hz3
 have hxs:=aC.turn (F':=fun b=>w1.heap.size≤b∧b≠w3.heap.size) (fun k hk (hf:w2.heap.size≤k)=>by have:=H2.out.2.size;constructor<;>omega) (Kept.of_below hal) D (Nat.le_refl _) hx
 have H3:=ae (And.intro (hP.below hal) (And.intro hxs (And.intro (hB3.alloc (.cells #[.int .i64 x.op,.int .i64 x.n,.string x.s,.string x.name,.string x.src,.slice A2 m2 c2] 55)) (And.intro hk3 hs3))))
 clear hx hP hB hB3 hs3 hal hk3 hz3 hxs
 obtain⟨w4,FK⟩:∃ w4,Hid (w4=w3.alloc (.cells #[.int .i64 x.op,.int .i64 x.n,.string x.s,.string x.name,.string x.src,.slice A2 m2 c2] 55)):=⟨_,rfl⟩
 have akA:w4.heap.size=w3.heap.size+1:=by rw[FK.out];simp
 rw[← FK.out] at H3
 have aqA:=ae akA
 go_upto_region 4 with (fail)
 rw[← FK.out]
 have aec:=Jh gp gc w4 ji 6 w4.heap.size (w4.heap.size+1) rfl rfl (by have:=Il.out;omega) rfl (by omega)
 clear akA
 have jI:=aec.2.alloc (aec.2.size) (.cells #[.slice (some ⟨w4.heap.size,0,none⟩) 6 6,.slice (some ⟨w4.heap.size+1,0,none⟩) 6 6] 192)
 have hlv:=aec.1.but (But.of_below ((Below.refl _ _).alloc (Nat.le_refl _) (.cells #[.slice (some ⟨w4.heap.size,0,none⟩) 6 6,.slice (some ⟨w4.heap.size+1,0,none⟩) 6 6] 192)))
 have ahB:=Hop.out _ _ _ (H3.out.1.below jI) hlv
 simp only[ji,str,List.map_cons,List.map_nil] at ahB jI
 have ano:=ae ahB
 have ahC:=ae jI
 clear ahB jI hlv aec
 go_wp2_with (fail)
 refine ano.out.mono ?_
 rintro e w6 ⟨rfl,hP,hB⟩
 have aed:=(But.of_below ahC.out).trans' hB
 have jk:=ah H3.out.2.2.2.1 aed (by have:=Il.out;omega)
 have vS:=H3.out.2.2.1.trans' aed
 have hk6:=ah Hk1.out vS (by have:=Hz.out;omega)
 have hx6:=H3.out.2.1.kept (fK (gp:=gp) (gc:=gc) aed (fun k hk=>by have:=Hz.out;have:=jM.out;have:=hk.1;omega))
 have H6:=ae (And.intro hP (And.intro vS (And.intro hk6 (And.intro jk hx6))))
 obtain⟨x0,x1,x2,x3,x4,x5,xl⟩:=aH hk6
 obtain⟨y0,y1,y2,y3,y4,y5,yl⟩:=aH jk
 have f6:=hk6.frozen
 clear hP hB aed jk vS hk6 hx6
 rcases Classical.em (op=0) with h0|h0
 ·have hf0:=agn.out
  rw[if_pos h0] at hf0
  subst h0 hf0
  have H:=ae (eH (w3:=w1) (aC.conv (F':=Fr w1) (fun k hk=>hk.1) (Kept.refl _ _) D (Nat.le_refl _) H6.out.2.2.2.2) H6.out.1 ((But.of_below Hb1.out).trans' H6.out.2.1) H6.out.2.2.1 (Nat.le_refl _) (by have:=jM.out;omega) Hz.out)
  go_wp2
  rw[bJ]
  exact bodyPost_ret (fA Tryz.results167 rfl H.out.1 rfl) rfl H.out.2
 ·have hf0:=agn.out
  rw[if_neg h0] at hf0
  subst hf0
  have q0:(op !=0)=true:=by simpa using h0
  have Ho:=ae (ann.out h0)
  clear h0
  go_upto_region 7 with (fail)
  have Hd:=ae (And.intro (show aW gp gc gw W s3 w6.drew from H6.out.1.below (Below.refl _ _).drew) (And.intro (show af w6.drew w3.heap.size 55 #[.int .i64 x.op,.int .i64 x.n,.string x.s,.string x.name,.string x.src,.slice A2 m2 c2] from H6.out.2.2.2.1) (show af w6.drew w.heap.size 55 zero6 from H6.out.2.2.1)))
  have HX2:=ae (show aC (fun b=>w1.heap.size≤b∧b≠w3.heap.size) D w6.drew [.int .i64 x.op,.int .i64 x.n,.string x.s,.string x.name,.string x.src,.slice A2 m2 c2] x from H6.out.2.2.2.2.below (Below.refl _ _).drew)
  have VK:w1.heap.size≤w6.drew.heap.size∧w3.heap.size<w6.drew.heap.size:=⟨H6.out.2.1.size,H6.out.2.2.2.1.lt⟩
  have VL:=ae VK
  have VJ:∀ k,w1.heap.size≤k∧k≠w3.heap.size→gp<k∧gc<k:=fun k hk=>by have:=Hz.out;have:=jM.out;omega
  have Qs:=ae VJ
  have MQ:=ae (fun (W2:World) (D2:Nat) (b:Ex) (rb:List Value) (hB2:But (fV gp gc) w6.drew W2) (hb:aC (Fr w6.drew) D2 W2 rb b)=>wX (fun b=>w1.heap.size≤b∧b≠w3.heap.size) (max D D2) op x b [.int .i64 x.op,.int .i64 x.n,.string x.s,.string x.name,.string x.src,.slice A2 m2 c2] rb W2 Ho.out.1 Ho.out.2
   (aC.conv (fun _ h=>h) (fK hB2 Qs.out) D (Nat.le_max_left _ _) HX2.out) (aC.conv (fun k (hk:w6.drew.heap.size≤k)=>by have:=VL.out;constructor<;>omega) (Kept.refl _ _) D2 (Nat.le_max_right _ _) hb) (fun k hk=>by have:=VL.out;have:=hB2.size;constructor<;>omega))
  clear VK VJ
  go_region_with (first
   | (go_at_call 186;refine(HS2.out _ Hd.out.1).mono ?_;rintro e7 w7 ⟨aqB,D7,rfl,hx7,Ir,uz⟩;obtain⟨A7,m7,c7,rfl⟩:=bP hx7;obtain⟨z0,z1,z2,z3,z4,z5,zl⟩:=aH (ah Hd.out.2.1 uz (by have:=Il.out;omega)))
   | (go_at_call 166;refine(MQ.out _ _ _ _ uz hx7).mono ?_;rintro e8 w8 ⟨aqC,rfl,YE,hb8⟩;obtain⟨A8,m8,c8,rfl⟩:=bP YE;have ahD:=ah Hd.out.2.2 uz (by have:=Hz.out;omega);have aee:=ahD.ag (hb8.block _ ahD.lt);obtain⟨v0,v1,v2,v3,v4,v5,vl⟩:=aH aee;have f88:=aee.frozen;have akB:=(H6.out.2.1.drew).trans' (uz.trans' (But.of_below hb8));have H8:=ae (eH (w3:=w1) (aC.conv (F':=Fr w1) (fun k hk=>hk.1) (Kept.refl _ _) _ (Nat.le_refl _) YE) (Ir.below hb8) ((But.of_below Hb1.out).trans' akB) aee (Nat.le_refl _) (by have:=jM.out;omega) Hz.out)))
  all_goals
   clear Ir uz hx7 hb8 YE ahD aee akB
   go_wp2
   rw[bJ]
   exact bodyPost_ret (fA Tryz.results167 rfl H8.out.1 rfl) rfl H8.out.2
theorem Xo (gp gc gw:Nat) (W:aV) (E:au→Ex×au) (m:Nat) (hS:fB gp gc gw W 186 (sumP W E) m) (hU:∀ s,Ge s (sumP W E s).2):∀ (k:Nat),1≤k→∀ (s:au) (w:World),aW gp gc gw W s w→Fit W k s→Fit W m s →
  Calls Tryz.prog 167 #[.pointer (some ⟨gp,0,none⟩)] w (jv gp gc gw W (notP W E k s).2 (notP W E k s).1 w):=by
 intro k
 induction k with
 | zero=>intro h;omega
 | succ k ih =>
  intro _ s w h hf hfm
  have hz:=And.intro h.lt.1 (And.intro h.lt.2 h.wl)
  have hb1:=(Below.refl w.heap.size w).alloc (Nat.le_refl _) (.cells zero6 55)
  have hk1:=af.laid w 55 zero6
  have hm:=gX gp gc gw W s (str [110,111,116]) _ (h.below hb1)
  have hsz:(w.alloc (.cells zero6 55)).heap.size=w.heap.size+1:=by simp
  obtain⟨w1,Hw1⟩:∃ w1,Hid (w1=w.alloc (.cells zero6 55)):=⟨_,rfl⟩
  rw[← Hw1.out] at hb1 hk1 hm hsz
  have Hb1:=ae hb1
  have Hk1:=ae hk1
  have Hz:=ae hz
  rcases bC W (str [110,111,116]) s with hc|⟨hc,hbad,hat⟩
  ·rw[aea hc]
   exact aa9 gp gc gw W E m hS hU s w h hfm hc
  ·rw[hc] at hm
   rw[aa8 hc]
   simp only[str] at hm
   have hf1:Fit W k s.on:=Fit.on hf
   have hk0:1≤k:=by
    rcases hf1 with h1|h1
    ·rw[show s.on.bad=s.bad from rfl,hbad] at h1;cases h1
    ·have:s.on.at_=s.at_+1:=rfl
     omega
   have hih:=fun w2 hW=>ih hk0 (aG s.on) w2 hW (hf1.ge (dW _)) ((hfm.ge (uK s)).ge (dW _))
   have Ha:=ae (fun w2 hW=>Uf gp gc gw W (notP W E k) s.on 19 w2 hW (by omega) (by omega) hih)
   have Hm:=ae hm
   clear hb1 hk1 hz h hf hfm hm hc ih hS hih hf1 hk0
   generalize notP W E k (aG s.on)=fin at *
   go_enter Tryz.func167,Tryz.ntmps167
   go_upto_region 1 with (fail)
   rw[← Hw1.out]
   go_wp2_with (fail)
   refine Hm.out.mono ?_
   rintro e w2 ⟨rfl,hP,hB⟩
   have H2:=ae (And.intro hP hB)
   clear hP hB
   go_wp2_with (fail)
   refine(Ha.out _ H2.out.1).mono ?_
   rintro e w3 ⟨row,D,rfl,hx,hP,hB⟩
   obtain⟨A2,m2,c2,rfl⟩:=bP hx
   have hB3:=H2.out.2.trans' hB
   have hk3:=ah Hk1.out hB3 (by have:=Hz.out;omega)
   obtain⟨x0,x1,x2,x3,x4,x5,xl⟩:=aH hk3
   have f3:=hk3.frozen
   have hs:=H2.out.2.size
   have H:=ae (eH hx hP ((But.of_below Hb1.out).trans' hB3) hk3 (Nat.le_refl _) (by omega) Hz.out)
   clear hx hP hB hB3 hk3 hs
   go_wp2
   rw[bJ]
   exact bodyPost_ret (fA Tryz.results167 rfl H.out.1 rfl) rfl H.out.2
theorem aba (gp gc gw:Nat) (W:aV) (E:au→Ex×au) (m:Nat) (hS:fB gp gc gw W 186 (sumP W E) m) (hU:∀ s,Ge s (sumP W E s).2):fB gp gc gw W 167 (notP W E W.fuel) m :=
 fun s w h hf=>Xo gp gc gw W E m hS hU W.fuel (by unfold aV.fuel;omega) s w h (DU W s) hf
end Go.Proofs.YtjjfkhbajidmdaaGreatDoor
