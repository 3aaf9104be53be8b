/- Parts of this proof, one behind the other: LexD, LexE, LexF, ParZ5. -/
import Derived.Test.YtjjfkhbajidmdaaGreatDoorPb38
import Derived.Test.YtjjfkhbajidmdaaGreatDoorPb37
set_option maxRecDepth 1000000
set_option maxHeartbeats 40000000
namespace Go.Proofs.YtjjfkhbajidmdaaGreatDoor
open Go.RowKit Go.Afx
theorem Ee (s:ByteArray) (k:Nat):(s.extract 0 k).data.toList=s.data.toList.take k:=by
 simp only[ByteArray.data_extract,Array.toList_extract,List.extract_eq_take_drop]
 simp
theorem alp {l:List UInt8} {k:Nat} (hk:k≤l.length) (h:∀ y∈l.take k,lexB y=true) (hs:∀ y,l[k]?=some y→lexB y=false):l.takeWhile lexB=l.take k:=by
 induction l generalizing k with
 | nil=>simp
 | cons c r ih =>
  cases k with
  | zero =>
   have:=hs c rfl
   rw[List.takeWhile_cons,if_neg (by rw[this];decide)]
   rfl
  | succ k =>
   rw[List.takeWhile_cons,if_pos (h c (by simp)),List.take_succ_cons]
   rw[ih (k:=k) (by simpa using hk) (fun y hy=>h y (by simp[hy])) (fun y hy=>hs y (by simpa using hy))]
theorem Q4 {t:List UInt8} {v e:Int} (hd:t.head?.any wB=true) (h:NumSaid t v e) (s:List UInt8) (ht:s.takeWhile lexB=t) (b:Bool) (hb:b=decide (e=0)) :
  NextSaid (pI s) (.returned (.tuple #[.agg #[.int .i64 1,.string (str t),.int .i64 v,.int .i64 0],.int .i64 t.length,.bool b])):=by
 unfold pI
 rw[ht,if_pos hd]
 unfold NumSaid at h
 cases hp:sG t with
 | none =>
  rw[hp] at h
  rw[hb,decide_eq_false (by omega)]
  exact⟨_,_,_,_,rfl⟩
 | some n =>
  rw[hp] at h
  obtain⟨rfl,rfl⟩:=h
  rw[hb]
  rfl
theorem Le {t:List UInt8} (hd:t.head?.any wB=false) (s:List UInt8) (ht:s.takeWhile lexB=t) :
  NextSaid (pI s) (.returned (.tuple #[.agg #[.int .i64 3,.string (str t),.int .i64 0,.int .i64 0],.int .i64 t.length,.bool (dV (str t))])):=by
 unfold pI
 rw[ht,if_neg (by rw[hd];decide)]
 cases dV (str t) with
 | true=>rfl
 | false=>exact⟨_,_,_,_,rfl⟩
theorem XP (s:ByteArray) (w:World) (h0:0<s.size) (hc:lexB s[0]=true) (hs:s.size≤1000000000) :
  Calls Tryz.prog 118 #[.string s] w fun x w'=>NextSaid (pI s.data.toList) x∧Below w.heap.size w w':=by
 obtain⟨w1,Hw1⟩:∃ w1,Hid (w1=w.alloc (.cells #[.int .i64 0,.string ⟨#[]⟩,.int .i64 0,.int .i64 0] 101)):=⟨_,rfl⟩
 have hb1:Below w.heap.size w w1:=by rw[Hw1.out];exact(Below.refl _ _).alloc (Nat.le_refl _) _
 have hk1:af w1 w.heap.size 101 #[.int .i64 0,.string ⟨#[]⟩,.int .i64 0,.int .i64 0]:=by rw[Hw1.out];exact af.laid _ _ _
 have hz1:w1.heap.size=w.heap.size+1:=by rw[Hw1.out];simp
 have Hb1:=ae hb1
 have Hk1:=ae hk1
 have Sr:=ae hz1
 have Hc:=ae hc
 have hst:=drop_at s 0 h0
 rw[List.drop_zero] at hst
 have J6:=ae hst
 clear hb1 hk1 hz1 hc hst
 go_enter Tryz.func118,Tryz.ntmps118
 go_upto_region 1 with (fail)
 rw[← Hw1.out]
 go_wp2
 go_loop [5] (fun i=>∃ k:Nat,k≤s.size∧i=.int .i64 k∧Hid (∀ y∈s.data.toList.take k,lexB y=true)) (fun i=>s.size-(intOf i).toNat)
 case atStart=>exact⟨0,Nat.zero_le _,rfl,ae (by simp)⟩
 case round =>
  obtain⟨k,hk,rfl,HA⟩:=hrel
  have hend:(k<s.size→∀ h:k<s.size,lexB s[k]=false)→0<k∧s.data.toList.takeWhile lexB=s.data.toList.take k:=fun h=>by
   have h2:∀ y,s.data.toList[k]?=some y→lexB y=false:=fun y hy=>by
    have hlt:k<s.size:=by have:=(List.getElem?_eq_some_iff.1 hy).1;rwa [zq] at this
    have:=h hlt hlt
    rw[List.getElem?_eq_getElem (by rw[zq];exact hlt)] at hy
    rw[← Option.some.inj hy]
    exact this
   refine⟨?_,alp (by rw[zq];exact hk) HA.out h2⟩
   rcases Nat.eq_zero_or_pos k with e|e
   ·subst e
    have:=h h0 h0
    rw[Hc.out] at this
    cases this
   ·exact e
  rcases Nat.lt_or_ge k s.size with hlt|hge
  ·have hp:=F8 s[k] w1
   obtain⟨q,hq⟩:∃ q,lexB s[k]=q:=⟨_,rfl⟩
   rw[hq] at hp
   have Hp:=ae hp
   cases q with
   | true =>
    have hnx:∀ y∈s.data.toList.take (k+1),lexB y=true:=by
     rw[take_one (List.getElem?_eq_getElem (by rw[zq];exact hlt))]
     intro y hy
     rcases List.mem_append.1 hy with hy|hy
     ·exact HA.out y hy
     ·simp only[List.mem_singleton] at hy;subst hy;exact hq
    have KU:=ae hnx
    clear hp hq hend hnx
    go_wp2_with (fail)
    refine Hp.out.mono ?_
    rintro e w' ⟨rfl,rfl⟩
    go_wp2
    go_round
    case rel=>exact⟨k+1,by omega,by go_num,KU⟩
    case measure=>simp[intOf];omega
   | false =>
    have He:=ae (hend (fun _ _=>hq))
    clear hp hq hend
    go_wp2_with (fail)
    refine Hp.out.mono ?_
    rintro e w' ⟨rfl,rfl⟩
    go_upto_region 5 with (fail)
    obtain⟨t,Ht⟩:∃ t,Hid (t=s.extract 0 k):=⟨_,rfl⟩
    rw[← Ht.out]
    have htl:t.data.toList=s.data.toList.takeWhile lexB:=by rw[Ht.out,Ee,He.out.2]
    have htz:t.size=k:=by rw[← zq t,Ht.out,Ee,List.length_take,zq];omega
    have h0t:0<t.size:=by rw[htz];exact He.out.1
    have htd:=drop_at t 0 h0t
    rw[List.drop_zero] at htd
    have hstr:str t.data.toList=t:=rfl
    have hk1:=Hk1.out
    obtain⟨c0,c1,c2,c3,clt⟩:=cells4 hk1
    have hfz:=hk1.frozen
    have bn:=ae (fun (wr:World) (hb:Below w1.heap.size w1 wr) (k0:Int) (t0:ByteArray) (n0 a0:Int)=>Ed (Hk1.out.ag (hb.block _ Hk1.out.lt)) Hb1.out Sr.out hb k0 t0 n0 a0)
    have hlen:s.data.toList.takeWhile lexB=t.data.toList∧(t.data.toList.length:Int)=k:=⟨htl.symm,by rw[zq,htz]⟩
    have Hlen:=ae hlen
    clear hk1 c0 c1 c2 c3 clt hfz
    cases hd:wB t[0] with
    | true =>
     have hdh:t.data.toList.head?.any wB=true:=by rw[htd];simpa using hd
     have hcp:=zt t w1 h0t (by omega) hd
     have hdc:48≤t[0].toNat∧t[0].toNat≤57:=by simpa [wB] using hd
     obtain⟨e1,e2⟩:=hdc
     have RZ:=ae hcp
     have Hdh:=ae hdh
     clear hcp hdh hd htd htl hlen hstr htz
     go_wp2_with (fail)
     refine RZ.out.mono ?_
     rintro e w2 ⟨⟨v,er,rfl,hN⟩,hb2⟩
     have hk2:=Hk1.out.ag (hb2.block _ Hk1.out.lt)
     obtain⟨c0,c1,c2,c3,clt⟩:=cells4 hk2
     have hfz:=hk2.frozen
     have HN:=ae (fun b hb=>Q4 Hdh.out hN s.data.toList Hlen.out.1 b hb)
     have Hb2:=ae hb2
     clear hN hb2 hk2
     rcases Classical.em (er=0) with her|her
     ·have b5:(er==0)=true:=by rw[beq_iff_eq];exact her
      have HN2:=ae (HN.out true (by rw[decide_eq_true her]))
      clear her
      go_wp2
      refine bodyPost_ret (fD Tryz.results118 rfl (bn.out w2 Hb2.out 1 t v 0).1 rfl rfl rfl) rfl ⟨?_,(bn.out w2 Hb2.out 1 t v 0).2⟩
      have hlast:=HN2.out
      rw[Hlen.out.2] at hlast
      exact hlast
     ·have b5:(er==0)=false:=by rw[beq_eq_false_iff_ne];exact her
      have HN2:=ae (HN.out false (by rw[decide_eq_false her]))
      clear her
      go_wp2
      refine bodyPost_ret (fD Tryz.results118 rfl (bn.out w2 Hb2.out 1 t v 0).1 rfl rfl rfl) rfl ⟨?_,(bn.out w2 Hb2.out 1 t v 0).2⟩
      have hlast:=HN2.out
      rw[Hlen.out.2] at hlast
      exact hlast
    | false =>
     have hdh:t.data.toList.head?.any wB=false:=by rw[htd];simpa using hd
     have hal:=(Below.refl w1.heap.size w1).alloc (Nat.le_refl _) (.cells #[.string t] 9)
     have hcp:=zU (fun _=>True) (some ⟨w1.heap.size,0,none⟩) 1 1 [t] (w1.alloc (.cells #[.string t] 9)) ⟨[[.string t]],az.nG _ _ 1 rfl rfl (by simp) rfl (by unfold maxLen;omega),fun _ _ _=>trivial,rfl,fun i r x hr hx=>by
      rcases i with _|i
      ·simp at hr hx;subst hr hx;exact⟨rfl,rfl,by unfold okS;omega⟩
      ·simp at hr⟩
     have e6:[t].all dV=dV t:=by simp
     rw[e6] at hcp
     have hN:=Le hdh s.data.toList htl.symm
     rw[hstr] at hN
     have hdc:t[0].toNat<48∨57<t[0].toNat:=by
      rcases Nat.lt_or_ge t[0].toNat 48 with h|h
      ·exact .inl h
      ·right
       have h2:¬ (48≤t[0].toNat∧t[0].toNat≤57):=fun h3=>by
        have h4:wB t[0]=true:=by simp[wB,h3]
        rw[hd] at h4;cases h4
       omega
     have RZ:=ae hcp
     have KX:=ae hal
     have HN:=ae hN
     clear hcp hdh hd htd htl hlen hal hN hstr e6 htz
     rcases hdc with e1|e1
     all_goals
      go_wp2_with (fail)
      refine RZ.out.mono ?_
      rintro e w2 ⟨rfl,hb2⟩
      have Dq:=KX.out.trans (hb2.mono KX.out.size)
      have hk2:=Hk1.out.ag (Dq.block _ Hk1.out.lt)
      obtain⟨c0,c1,c2,c3,clt⟩:=cells4 hk2
      have hfz:=hk2.frozen
      have Hb2:=ae Dq
      clear hb2 hk2 Dq
      go_wp2
      refine bodyPost_ret (fD Tryz.results118 rfl (bn.out w2 Hb2.out 3 t 0 0).1 rfl rfl rfl) rfl ⟨?_,(bn.out w2 Hb2.out 3 t 0 0).2⟩
      have hlast:=HN.out
      rw[Hlen.out.2] at hlast
      exact hlast
  ·have He:=ae (hend (fun h=>by omega))
   clear hend
   go_upto_region 5 with (fail)
   obtain⟨t,Ht⟩:∃ t,Hid (t=s.extract 0 k):=⟨_,rfl⟩
   rw[← Ht.out]
   have htl:t.data.toList=s.data.toList.takeWhile lexB:=by rw[Ht.out,Ee,He.out.2]
   have htz:t.size=k:=by rw[← zq t,Ht.out,Ee,List.length_take,zq];omega
   have h0t:0<t.size:=by rw[htz];exact He.out.1
   have htd:=drop_at t 0 h0t
   rw[List.drop_zero] at htd
   have hstr:str t.data.toList=t:=rfl
   have hk1:=Hk1.out
   obtain⟨c0,c1,c2,c3,clt⟩:=cells4 hk1
   have hfz:=hk1.frozen
   have bn:=ae (fun (wr:World) (hb:Below w1.heap.size w1 wr) (k0:Int) (t0:ByteArray) (n0 a0:Int)=>Ed (Hk1.out.ag (hb.block _ Hk1.out.lt)) Hb1.out Sr.out hb k0 t0 n0 a0)
   have hlen:s.data.toList.takeWhile lexB=t.data.toList∧(t.data.toList.length:Int)=k:=⟨htl.symm,by rw[zq,htz]⟩
   have Hlen:=ae hlen
   clear hk1 c0 c1 c2 c3 clt hfz
   cases hd:wB t[0] with
   | true =>
    have hdh:t.data.toList.head?.any wB=true:=by rw[htd];simpa using hd
    have hcp:=zt t w1 h0t (by omega) hd
    have hdc:48≤t[0].toNat∧t[0].toNat≤57:=by simpa [wB] using hd
    obtain⟨e1,e2⟩:=hdc
    have RZ:=ae hcp
    have Hdh:=ae hdh
    clear hcp hdh hd htd htl hlen hstr htz
    go_wp2_with (fail)
    refine RZ.out.mono ?_
    rintro e w2 ⟨⟨v,er,rfl,hN⟩,hb2⟩
    have hk2:=Hk1.out.ag (hb2.block _ Hk1.out.lt)
    obtain⟨c0,c1,c2,c3,clt⟩:=cells4 hk2
    have hfz:=hk2.frozen
    have HN:=ae (fun b hb=>Q4 Hdh.out hN s.data.toList Hlen.out.1 b hb)
    have Hb2:=ae hb2
    clear hN hb2 hk2
    rcases Classical.em (er=0) with her|her
    ·have b5:(er==0)=true:=by rw[beq_iff_eq];exact her
     have HN2:=ae (HN.out true (by rw[decide_eq_true her]))
     clear her
     go_wp2
     refine bodyPost_ret (fD Tryz.results118 rfl (bn.out w2 Hb2.out 1 t v 0).1 rfl rfl rfl) rfl ⟨?_,(bn.out w2 Hb2.out 1 t v 0).2⟩
     have hlast:=HN2.out
     rw[Hlen.out.2] at hlast
     exact hlast
    ·have b5:(er==0)=false:=by rw[beq_eq_false_iff_ne];exact her
     have HN2:=ae (HN.out false (by rw[decide_eq_false her]))
     clear her
     go_wp2
     refine bodyPost_ret (fD Tryz.results118 rfl (bn.out w2 Hb2.out 1 t v 0).1 rfl rfl rfl) rfl ⟨?_,(bn.out w2 Hb2.out 1 t v 0).2⟩
     have hlast:=HN2.out
     rw[Hlen.out.2] at hlast
     exact hlast
   | false =>
    have hdh:t.data.toList.head?.any wB=false:=by rw[htd];simpa using hd
    have hal:=(Below.refl w1.heap.size w1).alloc (Nat.le_refl _) (.cells #[.string t] 9)
    have hcp:=zU (fun _=>True) (some ⟨w1.heap.size,0,none⟩) 1 1 [t] (w1.alloc (.cells #[.string t] 9)) ⟨[[.string t]],az.nG _ _ 1 rfl rfl (by simp) rfl (by unfold maxLen;omega),fun _ _ _=>trivial,rfl,fun i r x hr hx=>by
     rcases i with _|i
     ·simp at hr hx;subst hr hx;exact⟨rfl,rfl,by unfold okS;omega⟩
     ·simp at hr⟩
    have e6:[t].all dV=dV t:=by simp
    rw[e6] at hcp
    have hN:=Le hdh s.data.toList htl.symm
    rw[hstr] at hN
    have hdc:t[0].toNat<48∨57<t[0].toNat:=by
     rcases Nat.lt_or_ge t[0].toNat 48 with h|h
     ·exact .inl h
     ·right
      have h2:¬ (48≤t[0].toNat∧t[0].toNat≤57):=fun h3=>by
       have h4:wB t[0]=true:=by simp[wB,h3]
       rw[hd] at h4;cases h4
      omega
    have RZ:=ae hcp
    have KX:=ae hal
    have HN:=ae hN
    clear hcp hdh hd htd htl hlen hal hN hstr e6 htz
    rcases hdc with e1|e1
    all_goals
     go_wp2_with (fail)
     refine RZ.out.mono ?_
     rintro e w2 ⟨rfl,hb2⟩
     have Dq:=KX.out.trans (hb2.mono KX.out.size)
     have hk2:=Hk1.out.ag (Dq.block _ Hk1.out.lt)
     obtain⟨c0,c1,c2,c3,clt⟩:=cells4 hk2
     have hfz:=hk2.frozen
     have Hb2:=ae Dq
     clear hb2 hk2 Dq
     go_wp2
     refine bodyPost_ret (fD Tryz.results118 rfl (bn.out w2 Hb2.out 3 t 0 0).1 rfl rfl rfl) rfl ⟨?_,(bn.out w2 Hb2.out 3 t 0 0).2⟩
     have hlast:=HN.out
     rw[Hlen.out.2] at hlast
     exact hlast
theorem XQ (w:World):Calls Tryz.prog 120 #[] w fun x w'=>(∃ A c,x=.returned (.slice A 21 c)∧rX w' A 21 c (iK.map str))∧Below w.heap.size w w':=by
 have hT:=rX.lit (w:=w) (g:=w.heap.size) 9 (iK.map str) 21 rfl (by simp[iK]) (by omega)
 have hb:=(Below.refl w.heap.size w).alloc (Nat.le_refl _) (.cells ((iK.map str).map Value.string).toArray 9)
 have HT:=ae (And.intro hT hb)
 clear hT hb
 go_enter Tryz.func120,Tryz.ntmps120
 go_wp2
 go_ret
 exact⟨⟨_,_,rfl,HT.out.1⟩,HT.out.2⟩
theorem XR {l:List (List UInt8)} {k:Nat} {g s:List UInt8} (hg:l[k]?=some g):(g.isPrefixOf s=true→(l.drop k).find? (fun g=>g.isPrefixOf s)=some g)∧(g.isPrefixOf s=false→(l.drop k).find? (fun g=>g.isPrefixOf s)=(l.drop (k+1)).find? (fun g=>g.isPrefixOf s)):=by
 have hlt:=(List.getElem?_eq_some_iff.1 hg).1
 have e:l.drop k=g::l.drop (k+1):=by
  rw[List.drop_eq_getElem_cons hlt,(List.getElem?_eq_some_iff.1 hg).2]
 rw[e]
 exact⟨fun h=>by simp[h],fun h=>by simp[h]⟩
theorem Lh {o:Option Nx} {e:Ending} (h:NextSaid o e):∃ (k:Int) (t:ByteArray) (n m:Int) (b:Bool),e=.returned (.tuple #[.agg #[.int .i64 k,.string t,.int .i64 n,.int .i64 0],.int .i64 m,.bool b]):=by
 cases o with
 | none=>obtain⟨k,t,m,n,rfl⟩:=h;exact⟨_,_,_,_,_,rfl⟩
 | some x=>exact⟨_,_,_,_,_,h⟩
theorem next_any (s:ByteArray) (w:World) (h0:0<s.size) (hs:s.size≤1000000000) :
  Calls Tryz.prog 85 #[.string s] w fun x w'=>NextSaid (jZ s.data.toList) x∧Below w.heap.size w w':=by
 obtain⟨w1,Hw1⟩:∃ w1,Hid (w1=w.alloc (.cells #[.int .i64 0,.string ⟨#[]⟩,.int .i64 0,.int .i64 0] 101)):=⟨_,rfl⟩
 have hb1:Below w.heap.size w w1:=by rw[Hw1.out];exact(Below.refl _ _).alloc (Nat.le_refl _) _
 have hk1:af w1 w.heap.size 101 #[.int .i64 0,.string ⟨#[]⟩,.int .i64 0,.int .i64 0]:=by rw[Hw1.out];exact af.laid _ _ _
 have hz1:w1.heap.size=w.heap.size+1:=by rw[Hw1.out];simp
 have Hb1:=ae hb1
 have Hk1:=ae hk1
 have Sr:=ae hz1
 have hst:=drop_at s 0 h0
 rw[List.drop_zero] at hst
 have hhd:s.data.toList.head?=some s[0]:=by rw[hst];rfl
 have hp:=F8 s[0] w1
 have hpl:=fun hc=>XP s w1 h0 hc hs
 have hqu:=UF s w1 h0 hs
 have hN:jZ s.data.toList=if lexB s[0] then pI s.data.toList else if s[0].toNat=39 then lV s.data.toList else F7 s.data.toList:=by
  unfold jZ
  rw[hhd]
  simp
 have bn:=ae (fun (wr:World) (hb:Below w1.heap.size w1 wr) (k0:Int) (t0:ByteArray) (n0 a0:Int)=>Ed (Hk1.out.ag (hb.block _ Hk1.out.lt)) Hb1.out Sr.out hb k0 t0 n0 a0)
 clear hb1 hk1 hz1 hhd hst
 obtain⟨q,hq⟩:∃ q,lexB s[0]=q:=⟨_,rfl⟩
 rw[hq] at hp hN
 have Hp:=ae hp
 have Hqu:=ae hqu
 cases q with
 | true =>
  have Hpl:=ae (hpl hq)
  rw[if_pos rfl] at hN
  rw[hN]
  clear hN hp hpl hqu hq
  go_enter Tryz.func85,Tryz.ntmps85
  go_upto_region 1 with (fail)
  rw[← Hw1.out]
  go_wp2_with (fail)
  refine Hp.out.mono ?_
  rintro e w' ⟨rfl,rfl⟩
  go_wp2_with (fail)
  refine Hpl.out.mono ?_
  rintro e w2 ⟨hS,hb2⟩
  obtain⟨k,t,n,m,b,rfl⟩:=Lh hS
  have hk2:=Hk1.out.ag (hb2.block _ Hk1.out.lt)
  obtain⟨c0,c1,c2,c3,clt⟩:=cells4 hk2
  have hfz:=hk2.frozen
  have HS:=ae hS
  have Hb2:=ae hb2
  clear hS hk2 hb2
  go_wp2
  exact bodyPost_ret (fD Tryz.results85 rfl (bn.out _ Hb2.out k t n 0).1 rfl rfl rfl) rfl ⟨HS.out,(bn.out _ Hb2.out k t n 0).2⟩
 | false =>
  rw[if_neg (by decide)] at hN
  rcases Classical.em (s[0].toNat=39) with e39|e39
  ·rw[if_pos e39] at hN
   rw[hN]
   have b1:((s[0].toNat:Int)==39)=true:=by rw[beq_iff_eq];omega
   clear hN hp hpl hqu hq e39
   go_enter Tryz.func85,Tryz.ntmps85
   go_upto_region 1 with (fail)
   rw[← Hw1.out]
   go_wp2_with (fail)
   refine Hp.out.mono ?_
   rintro e w' ⟨rfl,rfl⟩
   go_wp2_with (fail)
   refine Hqu.out.mono ?_
   rintro e w2 ⟨hS,hb2⟩
   obtain⟨k,t,n,m,b,rfl⟩:=Lh hS
   have hk2:=Hk1.out.ag (hb2.block _ Hk1.out.lt)
   obtain⟨c0,c1,c2,c3,clt⟩:=cells4 hk2
   have hfz:=hk2.frozen
   have HS:=ae hS
   have Hb2:=ae hb2
   clear hS hk2 hb2
   go_wp2
   exact bodyPost_ret (fD Tryz.results85 rfl (bn.out _ Hb2.out k t n 0).1 rfl rfl rfl) rfl ⟨HS.out,(bn.out _ Hb2.out k t n 0).2⟩
  ·rw [if_neg e39] at hN
   rw[hN]
   have b1:((s[0].toNat:Int)==39)=false:=by rw[beq_eq_false_iff_ne];omega
   obtain⟨m,Hm⟩:∃ m,Hid (m=F7 s.data.toList):=⟨_,rfl⟩
   rw[← Hm.out]
   have EH:=ae (XQ w1)
   clear hN hp hpl hqu hq e39
   go_enter Tryz.func85,Tryz.ntmps85
   go_upto_region 1 with (fail)
   rw[← Hw1.out]
   go_wp2_with (fail)
   refine Hp.out.mono ?_
   rintro e w' ⟨rfl,rfl⟩
   go_wp2_with (fail)
   refine EH.out.mono ?_
   rintro e w2 ⟨⟨A,c,rfl,hT⟩,hb2⟩
   have hk2:=Hk1.out.ag (hb2.block _ Hk1.out.lt)
   obtain⟨c0,c1,c2,c3,clt⟩:=cells4 hk2
   have hfz:=hk2.frozen
   have HT:=ae hT
   have Hb2:=ae hb2
   clear hT hk2 hb2
   go_wp2
   go_loop [27] (fun i=>∃ k:Nat,k≤21∧i=.int .i64 k∧Hid (m=((iK.drop k).find? fun g=>g.isPrefixOf s.data.toList).map fun g=>⟨0,g,0,g.length⟩)) (fun i=>21-(intOf i).toNat)
   case atStart=>exact⟨0,by omega,rfl,Hm⟩
   case round =>
    obtain⟨k,hk,rfl,HF⟩:=hrel
    rcases Nat.lt_or_ge k 21 with hlt|hge
    ·obtain⟨b,o,x,rfl,hbl,hx,hcl⟩:=HT.out.get (k:=k) hlt
     rw[List.getElem?_map] at hx
     obtain⟨g,hg⟩:∃ g,iK[k]?=some g:=⟨_,List.getElem?_eq_getElem (by simp[iK];omega)⟩
     rw[hg] at hx
     have hx:str g=x:=by simpa using hx
     subst hx
     have hpf:=Tryz.strings_HasPrefix s (str g) w2
     obtain⟨f1,f2⟩:=XR (s:=s.data.toList) hg
     have hpf:Calls Tryz.prog 113 #[.string s,.string (str g)] w2 fun e w'=>e=.returned (.bool (g.isPrefixOf s.data.toList))∧w'=w2:=hpf
     have hgl:(str g).size=g.length:=rfl
     obtain⟨q,hq⟩:∃ q,g.isPrefixOf s.data.toList=q:=⟨_,rfl⟩
     rw[hq] at hpf f1 f2
     have Hpf:=ae hpf
     have Hgl:=ae hgl
     cases q with
     | true =>
      have hm:m=some ⟨0,g,0,g.length⟩:=by rw[HF.out,f1 rfl];rfl
      have Hmm:=ae hm
      clear hpf f1 f2 hq hg hm hgl
      go_wp2_with (fail)
      refine Hpf.out.mono ?_
      rintro e w' ⟨rfl,rfl⟩
      go_wp2
      refine bodyPost_ret (fD Tryz.results85 rfl (bn.out _ Hb2.out 0 (str g) 0 0).1 rfl rfl rfl) rfl ⟨?_,(bn.out _ Hb2.out 0 (str g) 0 0).2⟩
      rw[Hmm.out]
      rfl
     | false =>
      have hm:=HF.out
      rw[f2 rfl] at hm
      have Hmm:=ae hm
      clear hpf f1 f2 hq hg hm hgl
      go_wp2_with (fail)
      refine Hpf.out.mono ?_
      rintro e w' ⟨rfl,rfl⟩
      go_wp2
      go_round
      case rel=>exact⟨k+1,by omega,by go_num,Hmm⟩
      case measure=>simp[intOf];omega
    ·have hm:m=none:=by
      rw[HF.out,List.drop_eq_nil_of_le (by simp[iK];omega)]
      rfl
     have Hmm:=ae hm
     clear hm
     go_wp2
     refine bodyPost_ret (fD Tryz.results85 rfl (bn.out _ Hb2.out 0 ⟨#[]⟩ 0 0).1 rfl rfl rfl) rfl ⟨?_,(bn.out _ Hb2.out 0 ⟨#[]⟩ 0 0).2⟩
     rw[Hmm.out]
     exact⟨_,_,_,_,rfl⟩
theorem alq:kC Tryz.prog 93 101 4 40 (.agg #[.int .i64 0,.string ByteArray.empty,.int .i64 0,.int .i64 0]):=⟨Tryz.underlying93,by kernel_rfl,rfl,by decide⟩
theorem EU (l:List Wd):∀ r∈l.map iO,r.length=4:=by
 intro r hr
 obtain⟨x,_,rfl⟩:=List.mem_map.1 hr
 rfl
def alr (n base:Nat) (m:Nat ⊕ List Wd) (e:Ending) (w':World):Prop:=match m with
 | .inl at_=>e=.returned (.tuple #[.slice none 0 0,.int .i64 at_,.int .i64 12])
 | .inr ws=>∃ A c,e=.returned (.tuple #[.slice A ws.length c,.int .i64 0,.int .i64 0])∧w'.ownsRow base 101 4 (.slice A ws.length c) ws.length (ws.map iO).flatten∧(∀ x∈ws,okW x)∧ws.length≤n
def EW (L:List UInt8) (base:Nat) (e:Ending) (w':World):Prop :=
 if 8000<L.length then e=.returned (.tuple #[.slice none 0 0,.int .i64 0,.int .i64 5])
 else alr L.length base (QY L) e w'
theorem aij (s:ByteArray) (k:Nat) (h:k<s.size):0<(s.extract k s.size).size:=by
 rw[← zq,ext_list,List.length_drop,zq];omega
theorem ab4 (s:ByteArray) (k:Nat):(s.extract k s.size).size≤s.size:=by
 rw[← zq,ext_list,List.length_drop,zq];omega
theorem aeI {s:List UInt8} {x:Nx} (h:jZ s=some x) (hs:s.length≤1000000):okI x.kind∧okS (str x.text)∧okI x.n:=by
 have htk:∀ (p:UInt8→Bool) (s:List UInt8),(s.takeWhile p).length≤s.length:=fun p s=>(List.takeWhile_prefix p).length_le
 have hstr:∀ t:List UInt8,(str t).size=t.length:=fun t=>rfl
 unfold jZ at h
 split at h
 ·have h2:=htk lexB s
  unfold pI at h
  split at h
  ·cases hn:sG (s.takeWhile lexB) with
   | none=>rw[hn] at h;cases h
   | some v =>
    rw[hn] at h
    cases h
    unfold sG at hn
    split at hn
    ·cases hn
    ·split at hn
     ·cases hn
      exact⟨by unfold okI;simp,by unfold okS;rw[hstr];simp only;omega,by unfold okI;simp only;omega⟩
     ·cases hn
  ·split at h
   ·cases h
    exact⟨by unfold okI;simp,by unfold okS;rw[hstr];simp only;omega,by unfold okI;simp⟩
   ·cases h
 ·split at h
  ·unfold lV at h
   split at h
   ·cases h
   ·split at h
    ·cases h
     exact⟨by unfold okI;simp,by unfold okS;rw[hstr];simp only;omega,by unfold okI;simp⟩
    ·cases h
  ·unfold F7 at h
   cases hf:iK.find? (fun g=>g.isPrefixOf s) with
   | none=>rw[hf] at h;cases h
   | some g =>
    rw[hf] at h
    cases h
    have h1:=List.find?_some hf
    have h3:g.length≤s.length:=(List.isPrefixOf_iff_prefix.1 h1).length_le
    exact⟨by unfold okI;simp,by unfold okS;rw[hstr];simp only;omega,by unfold okI;simp⟩
theorem V5 (f at_:Nat) (s:List UInt8) (hs:s≠[]):Nu (f+1) at_ s=match jZ s with
  | none=>.inl at_
  | some x=>abR ⟨x.kind,str x.text,x.n,at_⟩ (Nu f (at_+x.len+blk false (s.drop x.len)) ((s.drop x.len).drop (blk false (s.drop x.len)))):=by
 show (if s=[] then _ else _)=_
 rw[if_neg hs]
 cases jZ s<;>rfl
theorem Nw (s:ByteArray) (w:World) :
  Calls Tryz.prog 40 #[.string s] w fun x w'=>EW s.data.toList w.heap.size x w'∧Below w.heap.size w w':=by
 unfold EW
 rw[zq]
 rcases Nat.lt_or_ge 8000 s.size with h8|h8
 ·simp only[if_pos h8]
  have h9:(8000:Int)<s.size:=by omega
  clear h8
  go_enter Tryz.func40,Tryz.ntmps40
  go_wp2
  refine bodyPost_ret (v:=.tuple #[.slice none 0 0,.int .i64 0,.int .i64 5]) ?_ rfl ⟨rfl,Below.refl _ _⟩
  simp[results,Tryz.results40,go_sem]
 ·have hs:s.size≤1000000000:=by omega
  simp only[if_neg (show ¬ 8000<s.size by omega)]
  have h9:¬ (8000:Int)<s.size:=by omega
  have hbk:=Lc s w (by omega)
  obtain⟨m,Hm⟩:∃ m,Hid (m=QY s.data.toList):=⟨_,rfl⟩
  rw[← Hm.out]
  have hb0:=abU s.data.toList false
  rw[zq] at hb0
  have hm0:m=QX [] (Nu (s.size+1) (blk false s.data.toList) (s.data.toList.drop (blk false s.data.toList))):=by rw[Hm.out,abS,QY,zq]
  generalize blk false s.data.toList=k0 at *
  have Hbk:=ae hbk
  have Hm0:=ae (And.intro hm0 hb0)
  clear hbk hm0 hb0
  go_enter Tryz.func40,Tryz.ntmps40
  go_wp2_with (fail)
  refine Hbk.out.mono ?_
  rintro e w' ⟨rfl,rfl⟩
  go_wp2
  go_loopw [5,6] (fun l i wr=>∃ (k f:Nat) (ws:List Wd) (A:Option Addr) (c:Nat),k≤s.size∧i=.int .i64 k∧l=.slice A ws.length c∧wr.ownsRow w.heap.size 101 4 (.slice A ws.length c) ws.length (ws.map iO).flatten∧Hid ((∀ x∈ws,okW x)∧ws.length≤k∧m=QX ws (Nu f k (s.data.toList.drop k))∧s.size-k<f)∧Below w.heap.size w wr) (fun _ i _=>s.size-(intOf i).toNat)
  case atStart=>exact⟨k0,s.size+1,[],none,0,Hm0.out.2,rfl,rfl,World.ownsRow_nil _ _ _ _,ae ⟨by simp,by simp,Hm0.out.1,by omega⟩,Below.refl _ _⟩
  case round =>
   obtain⟨k,f,ws,A,c,hk,rfl,rfl,hown,HS,hb⟩:=hrel
   have Me:=ae hown
   have Hb:=ae hb
   clear hown hb
   rcases Nat.lt_or_ge k s.size with hlt|hge
   ·have hnx:=next_any (s.extract k s.size) wr (aij s k hlt) (by have:=ab4 s k;omega)
    have hln:=fun x h=>QZ (s:=s.data.toList.drop k) (x:=x) h
    have hok:=fun x h=>aeI (s:=s.data.toList.drop k) (x:=x) h (by rw[List.length_drop,zq];omega)
    rw[ext_list] at hnx
    obtain⟨f,rfl⟩:∃ f',f=f'+1:=⟨f-1,by have:=HS.out.2.2.2;omega⟩
    have hgo:=HS.out.2.2.1
    rw[V5 _ _ _ (by rw[drop_at s k hlt];simp)] at hgo
    rw[List.length_drop,zq] at hln
    generalize jZ (s.data.toList.drop k)=nx at *
    have KU:=ae hnx
    cases nx with
    | none =>
     have hm:m=.inl k:=hgo
     have Hmm:=ae hm
     clear hnx hln hok hgo hm
     go_wp2_with (fail)
     refine KU.out.mono ?_
     rintro e w2 ⟨⟨k2,t2,n2,m2,rfl⟩,hb2⟩
     have hal:=Hb.out.trans ((hb2.trans ((Below.refl w2.heap.size w2).alloc (Nat.le_refl _) (.cells #[.int .i64 k2,.string t2,.int .i64 n2,.int .i64 0] 101) |>.mono hb2.size)).mono Hb.out.size)
     have KX:=ae hal
     clear hb2 hal
     go_wp2
     refine bodyPost_ret (v:=.tuple #[.slice none 0 0,.int .i64 k,.int .i64 12]) ?_ rfl ⟨?_,KX.out⟩
     ·simp[results,Tryz.results40,go_sem]
     ·rw[Hmm.out];rfl
    | some x =>
     obtain⟨hl1,hl2⟩:=hln x rfl
     have aeJ:=hok x rfl
     have hgo:m=QX ws (abR ⟨x.kind,str x.text,x.n,k⟩ (Nu f (k+x.len+blk false ((s.data.toList.drop k).drop x.len)) (((s.data.toList.drop k).drop x.len).drop (blk false ((s.data.toList.drop k).drop x.len))))):=hgo
     rw[List.drop_drop,abT,List.drop_drop] at hgo
     have hbk:=fun wr=>Lc (s.extract (k+x.len) s.size) wr (by have:=ab4 s (k+x.len);omega)
     rw[ext_list] at hbk
     have hbl:=abU (s.data.toList.drop (k+x.len)) false
     rw[List.length_drop,zq] at hbl
     generalize blk false (s.data.toList.drop (k+x.len))=b at *
     have abg:∀ y∈ws++[⟨x.kind,str x.text,x.n,k⟩],okW y:=by
      intro y hy
      rcases List.mem_append.1 hy with hy|hy
      ·exact HS.out.1 y hy
      ·simp only[List.mem_singleton] at hy
       subst hy
       exact⟨aeJ.1,aeJ.2.1,aeJ.2.2,by unfold okI;simp only;omega⟩
     have hnext:(∀ y∈ws++[⟨x.kind,str x.text,x.n,k⟩],okW y)∧(ws++[(⟨x.kind,str x.text,x.n,k⟩:Wd)]).length≤k+x.len+b∧m=QX (ws++[⟨x.kind,str x.text,x.n,k⟩]) (Nu f (k+x.len+b) (s.data.toList.drop (k+x.len+b)))∧s.size-(k+x.len+b)<f:=⟨abg,by have:=HS.out.2.1;simp;omega,hgo,by have:=HS.out.2.2.2;omega⟩
     obtain⟨xk,xt,xn,xl⟩:=x
     simp only at hl1 hl2 hbl hbk hnext
     have abV:=ae hnext
     have Hbk:=ae hbk
     have Hl:=ae (And.intro hl1 (And.intro hl2 hbl))
     have Hll:=ae HS.out.2.1
     have KU:Hid (Calls Tryz.prog 85 #[.string (s.extract k s.size)] wr fun e w'=>e=.returned (.tuple #[.agg #[.int .i64 xk,.string (str xt),.int .i64 xn,.int .i64 0],.int .i64 xl,.bool true])∧Below wr.heap.size wr w'):=ae KU.out
     clear hnx hln hok hgo aeJ abg hnext hbk hbl hl1 hl2
     go_wp2_with (fail)
     refine KU.out.mono ?_
     rintro e w2 ⟨rfl,hb2⟩
     have hz2:=hb2.size
     have hk4:af (w2.alloc (.cells #[.int .i64 xk,.string (str xt),.int .i64 xn,.int .i64 k] 101)) w2.heap.size 101 #[.int .i64 xk,.string (str xt),.int .i64 xn,.int .i64 k]:=af.laid _ _ _
     have hb4:=hb2.trans (((Below.refl w2.heap.size w2).alloc (Nat.le_refl _) (.cells #[.int .i64 xk,.string (str xt),.int .i64 xn,.int .i64 k] 101)).mono hz2)
     have hown4:=own_below Me.out hb4
     obtain⟨w4,FK⟩:∃ w4,Hid (w4=w2.alloc (.cells #[.int .i64 xk,.string (str xt),.int .i64 xn,.int .i64 k] 101)):=⟨_,rfl⟩
     rw[← FK.out] at hk4 hb4 hown4
     have jI:=(Below.refl w4.heap.size w4).alloc (Nat.le_refl _) (.cells #[.int .i64 xk,.string (str xt),.int .i64 xn,.int .i64 k] 101)
     have hown5:=own_below hown4 jI
     have hnew:az (w4.alloc (.cells #[.int .i64 xk,.string (str xt),.int .i64 xn,.int .i64 k] 101)) 4 (some ⟨w4.heap.size,0,none⟩) 1 1 [iO ⟨xk,str xt,xn,k⟩]:=az.nG _ _ 1 rfl rfl (by simp[iO]) rfl (by unfold maxLen;omega)
     have hmx:ws.length+1≤maxLen:=by have:=Hll.out;unfold maxLen;omega
     have hby:(ws.length+1)*40≤140737488355328:=by have:=Hll.out;omega
     have hba:w.heap.size≤(w4.alloc (.cells #[.int .i64 xk,.string (str xt),.int .i64 xn,.int .i64 k] 101)).heap.size:=by have h1:=Hb.out.size;have h2:=hb4.size;have h3:=jI.size;omega
     have H4:=ae (And.intro hk4 (And.intro hb4 (And.intro hown5 (And.intro hnew (And.intro hmx (And.intro hby (And.intro hba jI)))))))
     clear hb2 hz2 hk4 hb4 hown4 hown5 hnew hmx hby hba jI
     go_upto_region 11 with (fail)
     rw[← FK.out]
     obtain⟨k0',k1',k2',k3',klt⟩:=cells4 H4.out.1
     obtain⟨s1,s2,s3⟩:=Hl.out
     have s4:k+xl≤s.size:=by omega
     have s5:k+xl+b≤s.size:=by omega
     have s6:((k:Int)+(xl:Int)).toNat=k+xl:=by omega
     go_wp2_with (at_builtin;refine gy (base:=w.heap.size) (xs:=ws.map iO) (news:=[iO ⟨xk,str xt,xn,k⟩]) rfl rfl alq rfl H4.out.2.2.1 rfl H4.out.2.2.2.1 (by simp[iO]) (by simp[iO,Value.oneCell']) H4.out.2.2.2.2.1 H4.out.2.2.2.2.2.1 H4.out.2.2.2.2.2.2.1 ?_;intro A6 c6 w6 hown6 dS FM)
     have hb6:=Hb.out.trans ((H4.out.2.1.trans (H4.out.2.2.2.2.2.2.2.mono H4.out.2.1.size)).mono Hb.out.size)
     have hb7:=hb6.trans (zW H4.out.2.2.1 dS H4.out.2.2.2.2.2.2.1)
     have H7:=ae (And.intro hb7 hown6)
     clear hb6 hb7 hown6 dS FM
     go_wp2_with (fail)
     with_reducible refine(Hbk.out _).mono ?_
     rintro e w' ⟨rfl,rfl⟩
     go_wp2
     go_roundw
     case rel=>exact⟨k+xl+b,f,ws++[⟨xk,str xt,xn,k⟩],A6,c6,s5,by go_num,by simp,by simpa using H7.out.2,abV,H7.out.1⟩
     case measure=>simp[intOf];omega
   ·have hm:m=.inr ws:=by
     have h1:=HS.out.2.2.1
     obtain⟨f,rfl⟩:∃ f',f=f'+1:=⟨f-1,by have:=HS.out.2.2.2;omega⟩
     rw[List.drop_eq_nil_of_le (by rw[zq];omega)] at h1
     rw[h1]
     show Sum.inr (ws++[])=_
     rw[List.append_nil]
    have Hmm:=ae hm
    clear hm
    go_wp2
    refine bodyPost_ret (v:=.tuple #[.slice A ws.length c,.int .i64 0,.int .i64 0]) ?_ rfl ⟨?_,Hb.out⟩
    ·simp[results,Tryz.results40,go_sem]
    ·rw[Hmm.out]
     exact⟨A,c,rfl,Me.out,HS.out.1,by have:=HS.out.2.1;omega⟩
theorem Q5 {F:Nat→Prop} {base:Nat} {w:World} {A:Option Addr} {c:Nat} {ws:List Wd} (h:w.ownsRow base 101 4 (.slice A ws.length c) ws.length (ws.map iO).flatten) (hok:∀ x∈ws,okW x) (hF:∀ a,A=some a→0<ws.length→F a.block):ai F w 4 akv A ws.length c ws :=
 ⟨ws.map iO,az.kS h (EU ws) (by simp),hF,by simp,fun k r x hr hx=>by
  rw[List.getElem?_map,hx] at hr
  simp only[Option.map_some,Option.some.injEq] at hr
  subst hr
  exact⟨rfl,rfl,hok x (List.mem_of_getElem? hx)⟩⟩
theorem UG (base:Nat) (A:Option Addr) (c:Nat) (ws:List Wd) (hn:ws.length≤1000000) (w:World) (hW:w.ownsRow base 101 4 (.slice A ws.length c) ws.length (ws.map iO).flatten) :
  Calls Tryz.prog 86 #[.slice A ws.length c] w fun e w'=>∃ A2 c2,e=.returned (.slice A2 ws.length c2)∧w'.ownsRow w.heap.size 101 4 (.slice A2 ws.length c2) ws.length (ws.map iO).flatten∧Below w.heap.size w w':=by
 have hR:=az.kS hW (EU ws) (by simp)
 have q22:∀ (w:World) (a:Option Addr) (n c n' c':Nat),(binOp .eql 93 (.slice a n c) (.slice none n' c')).run Tryz.prog w=.ok (.bool a.isNone) w:=fun w a n c n' c'=>Lib.run_eql_slice_nil w _ _ a n c n' c' Tryz.underlying93
 have h1:∀ r∈ws.map iO,∀ u∈r,u.oneCell'=true:=by
  intro r hr u hu
  obtain⟨x,_,rfl⟩:=List.mem_map.1 hr
  simp only[iO,List.mem_cons,List.not_mem_nil,or_false] at hu
  rcases hu with rfl|rfl|rfl|rfl<;>rfl
 have h4:=EU ws
 have hl:(ws.map iO).length=ws.length:=by simp
 generalize ws.map iO=rows at *
 generalize ws.length=n at *
 clear hW
 cases A with
 | none =>
  have h0:rows=[]:=by
   cases rows with
   | nil=>rfl
   | cons a r =>
    obtain⟨b,o,e,_⟩:=hR.at_ 0 a rfl
    cases e
  subst h0
  obtain rfl:n=0:=by simpa using hl.symm
  go_enter Tryz.func86,Tryz.ntmps86
  go_wp2
  go_ret
  exact⟨none,0,rfl,World.ownsRow_nil _ _ _ _,Below.refl _ _⟩
 | some a =>
  have hW2:az (w.alloc (.cells #[] 101)) 4 (some a) n c rows:=hR.below ((Below.refl _ _).alloc (Nat.le_refl _) _)
  have hown:(w.alloc (.cells #[] 101)).ownsRow w.heap.size 101 4 (.slice (some ⟨w.heap.size,0,none⟩) 0 0) 0 ([]:List (List Value)).flatten:=World.ownsRow_made w #[] 0 (Nat.le_refl _) (Nat.zero_le _) (by simp)
  go_enter Tryz.func86,Tryz.ntmps86
  go_wp2_with (at_builtin;refine gy rfl rfl alq rfl hown rfl hW2 h4 h1 ?_ ?_ ?_ ?_;(unfold maxLen;omega);omega;(simp);intro A3 c3 w3 hown3 dB hf3)
  go_ret
  refine⟨A3,c3,by simp,?_,?_⟩
  ·simpa using hown3
  ·refine((Below.refl _ _).alloc (Nat.le_refl _) _).trans (dB.below' (by simp) (fun i hi=>?_))
   simp at hi;omega
def OnSaid (g0:Nat) (W:aV) (w:World) (e:Ending) (w':World):Prop:=∃ gc gw,e=.returned (.pointer (some ⟨gc,0,none⟩))∧oM (fun b=>b=gw) gc W 0 w'∧gw<w'.heap.size∧(gw=g0∨w.heap.size≤gw)∧w.heap.size≤gc∧Below w.heap.size w w'
theorem on_any (base g0:Nat) (A:Option Addr) (c:Nat) (W:aV) (w:World) (hn:W.l.length≤1000000) (hW:w.ownsRow base 101 4 (.slice A W.l.length c) W.l.length (W.l.map iO).flatten) (hok:∀ x∈W.l,okW x) (he:okI W.end_) (h0:g0<w.heap.size) :
  Calls Tryz.prog 41 #[.slice A W.l.length c,.int .i64 W.end_] w (OnSaid g0 W w):=by
 have hc:=UG base A c W.l hn w hW
 have Hc:=ae hc
 obtain⟨n,Hn⟩:∃ n,Hid (n=W.l.length):=⟨_,rfl⟩
 have hc:Calls Tryz.prog 86 #[.slice A n c] w fun e w'=>∃ A2 c2,e=.returned (.slice A2 n c2)∧w'.ownsRow w.heap.size 101 4 (.slice A2 n c2) n (W.l.map iO).flatten∧Below w.heap.size w w':=by rw[Hn.out];exact Hc.out
 rw[← Hn.out]
 have Hc:=ae hc
 clear hc hW
 go_enter Tryz.func41,Tryz.ntmps41
 go_wp2_with (fail)
 refine Hc.out.mono ?_
 rintro e w2 ⟨A2,c2,rfl,hown,hb⟩
 have H2:=ae (And.intro hown hb)
 clear hown hb
 go_wp2
 go_ret
 have hen:=Hn.out
 subst hen
 have hown:=H2.out.1
 have hb:=H2.out.2
 have hal:=(Below.refl w2.heap.size w2).alloc (Nat.le_refl _) (.cells #[.int .i64 0,.int .i64 W.end_,.slice A2 W.l.length c2] 145)
 have hk:af (w2.alloc (.cells #[.int .i64 0,.int .i64 W.end_,.slice A2 W.l.length c2] 145)) w2.heap.size 145 #[.int .i64 0,.int .i64 W.end_,.slice A2 W.l.length c2]:=af.laid _ _ _
 have hsz:=hb.size
 have hmax:W.l.length≤1000000000000:=by omega
 rcases Nat.eq_zero_or_pos W.l.length with h9|h9
 ·refine⟨w2.heap.size,g0,rfl,⟨⟨A2,_,c2,hk,?_⟩,Nat.zero_le _,hmax,he,by omega⟩,by simp;omega,.inl rfl,hsz,hb.trans (hal.mono hsz)⟩
  exact Q5 (own_below hown hal) hok (fun _ _ h=>by omega)
 ·obtain⟨g,cap,hv,hgb,hg⟩:=hown.form h9
  simp only[Value.slice.injEq] at hv
  obtain⟨rfl,_,_⟩:=hv
  refine⟨w2.heap.size,g,rfl,⟨⟨_,_,c2,hk,?_⟩,Nat.zero_le _,hmax,he,by omega⟩,by simp;omega,.inr hgb,hsz,hb.trans (hal.mono hsz)⟩
  exact Q5 (own_below hown hal) hok (fun a ha _=>by cases ha;rfl)
theorem aW.aside {gp gc gw g:Nat} {W:aV} {s:au} {w w':World} (h:aW gp gc gw W s w) (hb:But (fun k=>k=g) w w') (hg:gp≠g∧gc≠g∧gw≠g):aW gp gc gw W s w':=h.off hb (fun k hk=>by subst hk;exact hg)
theorem Q7 (gp gc gw gx:Nat) (W:aV) (hW:W.l.length≤1000000) (s:au) (w:World) (cs:Array Value) (h:aW gp gc gw W s w) (hx:af w gx 30 cs) (hcs:cs.size=6) (hg:gp≠gx∧gc≠gx∧gw≠gx) :
  Calls Tryz.prog 20 #[.pointer (some ⟨gp,0,none⟩),.pointer (some ⟨gx,0,none⟩)] w fun e w'=>e=.returned (.tuple #[])∧(∃ row D,af w' gx 30 row.toArray∧lH (Fr w) D w' row (jT W s).1)∧aW gp gc gw W (jT W s).2 w'∧But (fun k=>k=gp∨k=gc∨k=gx) w w':=by
 have hp:=XL gp gc gw W hW s w h
 generalize jT W s=fin at *
 obtain⟨v0,v1,v2,v3,v4,v5,rfl⟩:∃ v0 v1 v2 v3 v4 v5,cs=#[v0,v1,v2,v3,v4,v5]:=by
  obtain⟨l⟩:=cs
  match l,hcs with
  | [a,b,c,d,e,f],_=>exact⟨a,b,c,d,e,f,rfl⟩
 have Hp:=ae hp
 have Hx:=ae hx
 have hlt:=hx.lt
 clear hp hx h
 go_enter Tryz.func20,Tryz.ntmps20
 go_wp2_with (fail)
 refine Hp.out.mono ?_
 rintro e w2 ⟨row,D,rfl,hpr,hP,hB⟩
 have hk2:=Hx.out.ag (hB.block _ Hx.out.lt (by rintro(e|e)<;>omega))
 obtain⟨x0,x1,x2,x3,x4,x5,xl⟩:=aH hk2
 have fx:=hk2.frozen
 have ab5:=hpr
 obtain⟨_,_,_,_,Ap,np,cp,Ab,nb,cb,rfl,_⟩:=ab5
 have H2:=ae (And.intro hpr (And.intro hP (And.intro hB hk2)))
 clear hpr hP hB hk2
 go_wp2
 rw[bJ]
 refine bodyPost_end (results_none rfl _ _ _) rfl ?_
 have hb7:=fP w2 gx (.string fin.1.name) (.string fin.1.src) (.string fin.1.part) (.int .i64 fin.1.fuel) (.slice Ap np cp) (.slice Ab nb cb)
 refine⟨rfl,⟨_,D,fO _ _ _ _ _ _ H2.out.2.2.2,?_⟩,H2.out.2.1.aside hb7 hg,((H2.out.2.2.1.mono (fun i hi=>.inl (by rcases hi with e|e;exact .inl e;exact .inr (.inl e)))).trans hb7 (fun i hi=>.inl (.inr (.inr hi))))⟩
 exact lH.conv (fun _ h=>h) (Kept.aN hb7 fun k (hk:w.heap.size≤k) e=>by omega) (Nat.le_refl D) H2.out.1
end Go.Proofs.YtjjfkhbajidmdaaGreatDoor
