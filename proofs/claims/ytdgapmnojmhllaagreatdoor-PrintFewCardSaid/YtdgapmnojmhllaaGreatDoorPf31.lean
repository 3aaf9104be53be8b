/- Parts of this proof, one behind the other: LexD, LexE, LexF. -/
import Derived.Test.YtdgapmnojmhllaaGreatDoorPf30
set_option maxRecDepth 1000000
set_option maxHeartbeats 40000000
namespace Go.Proofs.YtdgapmnojmhllaaGreatDoor
open Go.RowKit Go.Afx
theorem pre_list (s:ByteArray) (k:Nat):(s.extract 0 k).data.toList=s.data.toList.take k:=by
 simp only[ByteArray.data_extract,Array.toList_extract,List.extract_eq_take_drop]
 simp
theorem tw_at {l:List UInt8} {k:Nat} (hk:k≤l.length) (h:∀ y∈l.take k,lexB y=true) (hs:∀ y,l[k]?=some y→lexB y=false):l.takeWhile lexB=l.take k:=by
 induction l generalizing k with
 | nil=>simp
 | cons c r ih =>
  cases k with
  | zero =>
   have:=hs c rfl
   rw[List.takeWhile_cons,if_neg (by rw[this];decide)]
   rfl
  | succ k =>
   rw[List.takeWhile_cons,if_pos (h c (by simp)),List.take_succ_cons]
   rw[ih (k:=k) (by simpa using hk) (fun y hy=>h y (by simp[hy])) (fun y hy=>hs y (by simpa using hy))]
theorem num_said {t:List UInt8} {v e:Int} (hd:t.head?.any dgB=true) (h:NumSaid t v e) (s:List UInt8) (ht:s.takeWhile lexB=t) (b:Bool) (hb:b=decide (e=0)) :
  NextSaid (plainX s) (.returned (.tuple #[.agg #[.int .i64 1,.string (str t),.int .i64 v,.int .i64 0],.int .i64 t.length,.bool b])):=by
 unfold plainX
 rw[ht,if_pos hd]
 unfold NumSaid at h
 cases hp:parseN t with
 | none =>
  rw[hp] at h
  rw[hb,decide_eq_false (by omega)]
  exact⟨_,_,_,_,rfl⟩
 | some n =>
  rw[hp] at h
  obtain⟨rfl,rfl⟩:=h
  rw[hb]
  rfl
theorem name_said {t:List UInt8} (hd:t.head?.any dgB=false) (s:List UInt8) (ht:s.takeWhile lexB=t) :
  NextSaid (plainX s) (.returned (.tuple #[.agg #[.int .i64 3,.string (str t),.int .i64 0,.int .i64 0],.int .i64 t.length,.bool (namedB (str t))])):=by
 unfold plainX
 rw[ht,if_neg (by rw[hd];decide)]
 cases namedB (str t) with
 | true=>rfl
 | false=>exact⟨_,_,_,_,rfl⟩
theorem plain_any (s:ByteArray) (w:World) (h0:0<s.size) (hc:lexB s[0]=true) (hs:s.size≤1000000000) :
  Calls Tryz.prog 142 #[.string s] w fun x w'=>NextSaid (plainX s.data.toList) x∧Below w.heap.size w w':=by
 obtain⟨w1,Hw1⟩:∃ w1,Hid (w1=w.alloc (.cells #[.int .i64 0,.string ⟨#[]⟩,.int .i64 0,.int .i64 0] 125)):=⟨_,rfl⟩
 have hb1:Below w.heap.size w w1:=by rw[Hw1.out];exact(Below.refl _ _).alloc (Nat.le_refl _) _
 have hk1:IsBlk w1 w.heap.size 125 #[.int .i64 0,.string ⟨#[]⟩,.int .i64 0,.int .i64 0]:=by rw[Hw1.out];exact IsBlk.laid _ _ _
 have hz1:w1.heap.size=w.heap.size+1:=by rw[Hw1.out];simp
 have Hb1:=Lhd hb1
 have Hk1:=Lhd hk1
 have Hz1:=Lhd hz1
 have Hc:=Lhd hc
 have hst:=drop_at s 0 h0
 rw[List.drop_zero] at hst
 have Hst:=Lhd hst
 clear hb1 hk1 hz1 hc hst
 go_enter Tryz.func142,Tryz.ntmps142
 go_upto_region 1 with (fail)
 rw[← Hw1.out]
 go_wp2
 go_loop [5] (fun i=>∃ k:Nat,k≤s.size∧i=.int .i64 k∧Hid (∀ y∈s.data.toList.take k,lexB y=true)) (fun i=>s.size-(intOf i).toNat)
 case atStart=>exact⟨0,Nat.zero_le _,rfl,Lhd (by simp)⟩
 case round =>
  obtain⟨k,hk,rfl,HA⟩:=hrel
  have hend:(k<s.size→∀ h:k<s.size,lexB s[k]=false)→0<k∧s.data.toList.takeWhile lexB=s.data.toList.take k:=fun h=>by
   have h2:∀ y,s.data.toList[k]?=some y→lexB y=false:=fun y hy=>by
    have hlt:k<s.size:=by have:=(List.getElem?_eq_some_iff.1 hy).1;rwa [szl] at this
    have:=h hlt hlt
    rw[List.getElem?_eq_getElem (by rw[szl];exact hlt)] at hy
    rw[← Option.some.inj hy]
    exact this
   refine⟨?_,tw_at (by rw[szl];exact hk) HA.out h2⟩
   rcases Nat.eq_zero_or_pos k with e|e
   ·subst e
    have:=h h0 h0
    rw[Hc.out] at this
    cases this
   ·exact e
  rcases Nat.lt_or_ge k s.size with hlt|hge
  ·have hp:=lexPart_any s[k] w1
   obtain⟨q,hq⟩:∃ q,lexB s[k]=q:=⟨_,rfl⟩
   rw[hq] at hp
   have Hp:=Lhd hp
   cases q with
   | true =>
    have hnx:∀ y∈s.data.toList.take (k+1),lexB y=true:=by
     rw[take_one (List.getElem?_eq_getElem (by rw[szl];exact hlt))]
     intro y hy
     rcases List.mem_append.1 hy with hy|hy
     ·exact HA.out y hy
     ·simp only[List.mem_singleton] at hy;subst hy;exact hq
    have Hnx:=Lhd hnx
    clear hp hq hend hnx
    go_wp2_with (fail)
    refine Hp.out.mono ?_
    rintro e w' ⟨rfl,rfl⟩
    go_wp2
    go_round
    case rel=>exact⟨k+1,by omega,by go_num,Hnx⟩
    case measure=>simp[intOf];omega
   | false =>
    have He:=Lhd (hend (fun _ _=>hq))
    clear hp hq hend
    go_wp2_with (fail)
    refine Hp.out.mono ?_
    rintro e w' ⟨rfl,rfl⟩
    go_upto_region 5 with (fail)
    obtain⟨t,Ht⟩:∃ t,Hid (t=s.extract 0 k):=⟨_,rfl⟩
    rw[← Ht.out]
    have htl:t.data.toList=s.data.toList.takeWhile lexB:=by rw[Ht.out,pre_list,He.out.2]
    have htz:t.size=k:=by rw[← szl t,Ht.out,pre_list,List.length_take,szl];omega
    have h0t:0<t.size:=by rw[htz];exact He.out.1
    have htd:=drop_at t 0 h0t
    rw[List.drop_zero] at htd
    have hstr:str t.data.toList=t:=rfl
    have hk1:=Hk1.out
    obtain⟨c0,c1,c2,c3,clt⟩:=cells4 hk1
    have hfz:=hk1.frozen
    have Hfin:=Lhd (fun (wr:World) (hb:Below w1.heap.size w1 wr) (k0:Int) (t0:ByteArray) (n0 a0:Int)=>lex_laid (Hk1.out.as_was (hb.block _ Hk1.out.lt)) Hb1.out Hz1.out hb k0 t0 n0 a0)
    have hlen:s.data.toList.takeWhile lexB=t.data.toList∧(t.data.toList.length:Int)=k:=⟨htl.symm,by rw[szl,htz]⟩
    have Hlen:=Lhd hlen
    clear hk1 c0 c1 c2 c3 clt hfz
    cases hd:dgB t[0] with
    | true =>
     have hdh:t.data.toList.head?.any dgB=true:=by rw[htd];simpa using hd
     have hcp:=calcParse_any t w1 h0t (by omega) hd
     have hdc:48≤t[0].toNat∧t[0].toNat≤57:=by simpa [dgB] using hd
     obtain⟨e1,e2⟩:=hdc
     have Hcp:=Lhd hcp
     have Hdh:=Lhd hdh
     clear hcp hdh hd htd htl hlen hstr htz
     go_wp2_with (fail)
     refine Hcp.out.mono ?_
     rintro e w2 ⟨⟨v,er,rfl,hN⟩,hb2⟩
     have hk2:=Hk1.out.as_was (hb2.block _ Hk1.out.lt)
     obtain⟨c0,c1,c2,c3,clt⟩:=cells4 hk2
     have hfz:=hk2.frozen
     have HN:=Lhd (fun b hb=>num_said Hdh.out hN s.data.toList Hlen.out.1 b hb)
     have Hb2:=Lhd hb2
     clear hN hb2 hk2
     rcases Classical.em (er=0) with her|her
     ·have b5:(er==0)=true:=by rw[beq_iff_eq];exact her
      have HN2:=Lhd (HN.out true (by rw[decide_eq_true her]))
      clear her
      go_wp2
      refine bodyPost_ret (ret_word3 Tryz.results142 rfl (Hfin.out w2 Hb2.out 1 t v 0).1 rfl rfl rfl) rfl ⟨?_,(Hfin.out w2 Hb2.out 1 t v 0).2⟩
      have hlast:=HN2.out
      rw[Hlen.out.2] at hlast
      exact hlast
     ·have b5:(er==0)=false:=by rw[beq_eq_false_iff_ne];exact her
      have HN2:=Lhd (HN.out false (by rw[decide_eq_false her]))
      clear her
      go_wp2
      refine bodyPost_ret (ret_word3 Tryz.results142 rfl (Hfin.out w2 Hb2.out 1 t v 0).1 rfl rfl rfl) rfl ⟨?_,(Hfin.out w2 Hb2.out 1 t v 0).2⟩
      have hlast:=HN2.out
      rw[Hlen.out.2] at hlast
      exact hlast
    | false =>
     have hdh:t.data.toList.head?.any dgB=false:=by rw[htd];simpa using hd
     have hal:=(Below.refl w1.heap.size w1).alloc (Nat.le_refl _) (.cells #[.string t] 9)
     have hcp:=namedL_any (fun _=>True) (some ⟨w1.heap.size,0,none⟩) 1 1 [t] (w1.alloc (.cells #[.string t] 9)) ⟨[[.string t]],RowsAt.lit' _ _ 1 rfl rfl (by simp) rfl (by unfold maxLen;omega),fun _ _ _=>trivial,rfl,fun i r x hr hx=>by
      rcases i with _|i
      ·simp at hr hx;subst hr hx;exact⟨rfl,rfl,by unfold okS;omega⟩
      ·simp at hr⟩
     have e6:[t].all namedB=namedB t:=by simp
     rw[e6] at hcp
     have hN:=name_said hdh s.data.toList htl.symm
     rw[hstr] at hN
     have hdc:t[0].toNat<48∨57<t[0].toNat:=by
      rcases Nat.lt_or_ge t[0].toNat 48 with h|h
      ·exact .inl h
      ·right
       have h2:¬ (48≤t[0].toNat∧t[0].toNat≤57):=fun h3=>by
        have h4:dgB t[0]=true:=by simp[dgB,h3]
        rw[hd] at h4;cases h4
       omega
     have Hcp:=Lhd hcp
     have Hal:=Lhd hal
     have HN:=Lhd hN
     clear hcp hdh hd htd htl hlen hal hN hstr e6 htz
     rcases hdc with e1|e1
     all_goals
      go_wp2_with (fail)
      refine Hcp.out.mono ?_
      rintro e w2 ⟨rfl,hb2⟩
      have hb12:=Hal.out.trans (hb2.mono Hal.out.size)
      have hk2:=Hk1.out.as_was (hb12.block _ Hk1.out.lt)
      obtain⟨c0,c1,c2,c3,clt⟩:=cells4 hk2
      have hfz:=hk2.frozen
      have Hb2:=Lhd hb12
      clear hb2 hk2 hb12
      go_wp2
      refine bodyPost_ret (ret_word3 Tryz.results142 rfl (Hfin.out w2 Hb2.out 3 t 0 0).1 rfl rfl rfl) rfl ⟨?_,(Hfin.out w2 Hb2.out 3 t 0 0).2⟩
      have hlast:=HN.out
      rw[Hlen.out.2] at hlast
      exact hlast
  ·have He:=Lhd (hend (fun h=>by omega))
   clear hend
   go_upto_region 5 with (fail)
   obtain⟨t,Ht⟩:∃ t,Hid (t=s.extract 0 k):=⟨_,rfl⟩
   rw[← Ht.out]
   have htl:t.data.toList=s.data.toList.takeWhile lexB:=by rw[Ht.out,pre_list,He.out.2]
   have htz:t.size=k:=by rw[← szl t,Ht.out,pre_list,List.length_take,szl];omega
   have h0t:0<t.size:=by rw[htz];exact He.out.1
   have htd:=drop_at t 0 h0t
   rw[List.drop_zero] at htd
   have hstr:str t.data.toList=t:=rfl
   have hk1:=Hk1.out
   obtain⟨c0,c1,c2,c3,clt⟩:=cells4 hk1
   have hfz:=hk1.frozen
   have Hfin:=Lhd (fun (wr:World) (hb:Below w1.heap.size w1 wr) (k0:Int) (t0:ByteArray) (n0 a0:Int)=>lex_laid (Hk1.out.as_was (hb.block _ Hk1.out.lt)) Hb1.out Hz1.out hb k0 t0 n0 a0)
   have hlen:s.data.toList.takeWhile lexB=t.data.toList∧(t.data.toList.length:Int)=k:=⟨htl.symm,by rw[szl,htz]⟩
   have Hlen:=Lhd hlen
   clear hk1 c0 c1 c2 c3 clt hfz
   cases hd:dgB t[0] with
   | true =>
    have hdh:t.data.toList.head?.any dgB=true:=by rw[htd];simpa using hd
    have hcp:=calcParse_any t w1 h0t (by omega) hd
    have hdc:48≤t[0].toNat∧t[0].toNat≤57:=by simpa [dgB] using hd
    obtain⟨e1,e2⟩:=hdc
    have Hcp:=Lhd hcp
    have Hdh:=Lhd hdh
    clear hcp hdh hd htd htl hlen hstr htz
    go_wp2_with (fail)
    refine Hcp.out.mono ?_
    rintro e w2 ⟨⟨v,er,rfl,hN⟩,hb2⟩
    have hk2:=Hk1.out.as_was (hb2.block _ Hk1.out.lt)
    obtain⟨c0,c1,c2,c3,clt⟩:=cells4 hk2
    have hfz:=hk2.frozen
    have HN:=Lhd (fun b hb=>num_said Hdh.out hN s.data.toList Hlen.out.1 b hb)
    have Hb2:=Lhd hb2
    clear hN hb2 hk2
    rcases Classical.em (er=0) with her|her
    ·have b5:(er==0)=true:=by rw[beq_iff_eq];exact her
     have HN2:=Lhd (HN.out true (by rw[decide_eq_true her]))
     clear her
     go_wp2
     refine bodyPost_ret (ret_word3 Tryz.results142 rfl (Hfin.out w2 Hb2.out 1 t v 0).1 rfl rfl rfl) rfl ⟨?_,(Hfin.out w2 Hb2.out 1 t v 0).2⟩
     have hlast:=HN2.out
     rw[Hlen.out.2] at hlast
     exact hlast
    ·have b5:(er==0)=false:=by rw[beq_eq_false_iff_ne];exact her
     have HN2:=Lhd (HN.out false (by rw[decide_eq_false her]))
     clear her
     go_wp2
     refine bodyPost_ret (ret_word3 Tryz.results142 rfl (Hfin.out w2 Hb2.out 1 t v 0).1 rfl rfl rfl) rfl ⟨?_,(Hfin.out w2 Hb2.out 1 t v 0).2⟩
     have hlast:=HN2.out
     rw[Hlen.out.2] at hlast
     exact hlast
   | false =>
    have hdh:t.data.toList.head?.any dgB=false:=by rw[htd];simpa using hd
    have hal:=(Below.refl w1.heap.size w1).alloc (Nat.le_refl _) (.cells #[.string t] 9)
    have hcp:=namedL_any (fun _=>True) (some ⟨w1.heap.size,0,none⟩) 1 1 [t] (w1.alloc (.cells #[.string t] 9)) ⟨[[.string t]],RowsAt.lit' _ _ 1 rfl rfl (by simp) rfl (by unfold maxLen;omega),fun _ _ _=>trivial,rfl,fun i r x hr hx=>by
     rcases i with _|i
     ·simp at hr hx;subst hr hx;exact⟨rfl,rfl,by unfold okS;omega⟩
     ·simp at hr⟩
    have e6:[t].all namedB=namedB t:=by simp
    rw[e6] at hcp
    have hN:=name_said hdh s.data.toList htl.symm
    rw[hstr] at hN
    have hdc:t[0].toNat<48∨57<t[0].toNat:=by
     rcases Nat.lt_or_ge t[0].toNat 48 with h|h
     ·exact .inl h
     ·right
      have h2:¬ (48≤t[0].toNat∧t[0].toNat≤57):=fun h3=>by
       have h4:dgB t[0]=true:=by simp[dgB,h3]
       rw[hd] at h4;cases h4
      omega
    have Hcp:=Lhd hcp
    have Hal:=Lhd hal
    have HN:=Lhd hN
    clear hcp hdh hd htd htl hlen hal hN hstr e6 htz
    rcases hdc with e1|e1
    all_goals
     go_wp2_with (fail)
     refine Hcp.out.mono ?_
     rintro e w2 ⟨rfl,hb2⟩
     have hb12:=Hal.out.trans (hb2.mono Hal.out.size)
     have hk2:=Hk1.out.as_was (hb12.block _ Hk1.out.lt)
     obtain⟨c0,c1,c2,c3,clt⟩:=cells4 hk2
     have hfz:=hk2.frozen
     have Hb2:=Lhd hb12
     clear hb2 hk2 hb12
     go_wp2
     refine bodyPost_ret (ret_word3 Tryz.results142 rfl (Hfin.out w2 Hb2.out 3 t 0 0).1 rfl rfl rfl) rfl ⟨?_,(Hfin.out w2 Hb2.out 3 t 0 0).2⟩
     have hlast:=HN.out
     rw[Hlen.out.2] at hlast
     exact hlast
theorem signs_any (w:World):Calls Tryz.prog 144 #[] w fun x w'=>(∃ A c,x=.returned (.slice A 21 c)∧TxsAt w' A 21 c (signsL.map str))∧Below w.heap.size w w':=by
 have hT:=TxsAt.lit (w:=w) (g:=w.heap.size) 9 (signsL.map str) 21 rfl (by simp[signsL]) (by omega)
 have hb:=(Below.refl w.heap.size w).alloc (Nat.le_refl _) (.cells ((signsL.map str).map Value.string).toArray 9)
 have HT:=Lhd (And.intro hT hb)
 clear hT hb
 go_enter Tryz.func144,Tryz.ntmps144
 go_wp2
 go_ret
 exact⟨⟨_,_,rfl,HT.out.1⟩,HT.out.2⟩
theorem find_step {l:List (List UInt8)} {k:Nat} {g s:List UInt8} (hg:l[k]?=some g):(g.isPrefixOf s=true→(l.drop k).find? (fun g=>g.isPrefixOf s)=some g)∧(g.isPrefixOf s=false→(l.drop k).find? (fun g=>g.isPrefixOf s)=(l.drop (k+1)).find? (fun g=>g.isPrefixOf s)):=by
 have hlt:=(List.getElem?_eq_some_iff.1 hg).1
 have e:l.drop k=g::l.drop (k+1):=by
  rw[List.drop_eq_getElem_cons hlt,(List.getElem?_eq_some_iff.1 hg).2]
 rw[e]
 exact⟨fun h=>by simp[h],fun h=>by simp[h]⟩
theorem said_cell {o:Option Nx} {e:Ending} (h:NextSaid o e):∃ (k:Int) (t:ByteArray) (n m:Int) (b:Bool),e=.returned (.tuple #[.agg #[.int .i64 k,.string t,.int .i64 n,.int .i64 0],.int .i64 m,.bool b]):=by
 cases o with
 | none=>obtain⟨k,t,m,n,rfl⟩:=h;exact⟨_,_,_,_,_,rfl⟩
 | some x=>exact⟨_,_,_,_,_,h⟩
theorem next_any (s:ByteArray) (w:World) (h0:0<s.size) (hs:s.size≤1000000000) :
  Calls Tryz.prog 100 #[.string s] w fun x w'=>NextSaid (nextX s.data.toList) x∧Below w.heap.size w w':=by
 obtain⟨w1,Hw1⟩:∃ w1,Hid (w1=w.alloc (.cells #[.int .i64 0,.string ⟨#[]⟩,.int .i64 0,.int .i64 0] 125)):=⟨_,rfl⟩
 have hb1:Below w.heap.size w w1:=by rw[Hw1.out];exact(Below.refl _ _).alloc (Nat.le_refl _) _
 have hk1:IsBlk w1 w.heap.size 125 #[.int .i64 0,.string ⟨#[]⟩,.int .i64 0,.int .i64 0]:=by rw[Hw1.out];exact IsBlk.laid _ _ _
 have hz1:w1.heap.size=w.heap.size+1:=by rw[Hw1.out];simp
 have Hb1:=Lhd hb1
 have Hk1:=Lhd hk1
 have Hz1:=Lhd hz1
 have hst:=drop_at s 0 h0
 rw[List.drop_zero] at hst
 have hhd:s.data.toList.head?=some s[0]:=by rw[hst];rfl
 have hp:=lexPart_any s[0] w1
 have hpl:=fun hc=>plain_any s w1 h0 hc hs
 have hqu:=quoted_any s w1 h0 hs
 have hN:nextX s.data.toList=if lexB s[0] then plainX s.data.toList else if s[0].toNat=39 then quotedX s.data.toList else signX s.data.toList:=by
  unfold nextX
  rw[hhd]
  simp
 have Hfin:=Lhd (fun (wr:World) (hb:Below w1.heap.size w1 wr) (k0:Int) (t0:ByteArray) (n0 a0:Int)=>lex_laid (Hk1.out.as_was (hb.block _ Hk1.out.lt)) Hb1.out Hz1.out hb k0 t0 n0 a0)
 clear hb1 hk1 hz1 hhd hst
 obtain⟨q,hq⟩:∃ q,lexB s[0]=q:=⟨_,rfl⟩
 rw[hq] at hp hN
 have Hp:=Lhd hp
 have Hqu:=Lhd hqu
 cases q with
 | true =>
  have Hpl:=Lhd (hpl hq)
  rw[if_pos rfl] at hN
  rw[hN]
  clear hN hp hpl hqu hq
  go_enter Tryz.func100,Tryz.ntmps100
  go_upto_region 1 with (fail)
  rw[← Hw1.out]
  go_wp2_with (fail)
  refine Hp.out.mono ?_
  rintro e w' ⟨rfl,rfl⟩
  go_wp2_with (fail)
  refine Hpl.out.mono ?_
  rintro e w2 ⟨hS,hb2⟩
  obtain⟨k,t,n,m,b,rfl⟩:=said_cell hS
  have hk2:=Hk1.out.as_was (hb2.block _ Hk1.out.lt)
  obtain⟨c0,c1,c2,c3,clt⟩:=cells4 hk2
  have hfz:=hk2.frozen
  have HS:=Lhd hS
  have Hb2:=Lhd hb2
  clear hS hk2 hb2
  go_wp2
  exact bodyPost_ret (ret_word3 Tryz.results100 rfl (Hfin.out _ Hb2.out k t n 0).1 rfl rfl rfl) rfl ⟨HS.out,(Hfin.out _ Hb2.out k t n 0).2⟩
 | false =>
  rw[if_neg (by decide)] at hN
  rcases Classical.em (s[0].toNat=39) with e39|e39
  ·rw[if_pos e39] at hN
   rw[hN]
   have b1:((s[0].toNat:Int)==39)=true:=by rw[beq_iff_eq];omega
   clear hN hp hpl hqu hq e39
   go_enter Tryz.func100,Tryz.ntmps100
   go_upto_region 1 with (fail)
   rw[← Hw1.out]
   go_wp2_with (fail)
   refine Hp.out.mono ?_
   rintro e w' ⟨rfl,rfl⟩
   go_wp2_with (fail)
   refine Hqu.out.mono ?_
   rintro e w2 ⟨hS,hb2⟩
   obtain⟨k,t,n,m,b,rfl⟩:=said_cell hS
   have hk2:=Hk1.out.as_was (hb2.block _ Hk1.out.lt)
   obtain⟨c0,c1,c2,c3,clt⟩:=cells4 hk2
   have hfz:=hk2.frozen
   have HS:=Lhd hS
   have Hb2:=Lhd hb2
   clear hS hk2 hb2
   go_wp2
   exact bodyPost_ret (ret_word3 Tryz.results100 rfl (Hfin.out _ Hb2.out k t n 0).1 rfl rfl rfl) rfl ⟨HS.out,(Hfin.out _ Hb2.out k t n 0).2⟩
  ·rw [if_neg e39] at hN
   rw[hN]
   have b1:((s[0].toNat:Int)==39)=false:=by rw[beq_eq_false_iff_ne];omega
   obtain⟨m,Hm⟩:∃ m,Hid (m=signX s.data.toList):=⟨_,rfl⟩
   rw[← Hm.out]
   have Hsg:=Lhd (signs_any w1)
   clear hN hp hpl hqu hq e39
   go_enter Tryz.func100,Tryz.ntmps100
   go_upto_region 1 with (fail)
   rw[← Hw1.out]
   go_wp2_with (fail)
   refine Hp.out.mono ?_
   rintro e w' ⟨rfl,rfl⟩
   go_wp2_with (fail)
   refine Hsg.out.mono ?_
   rintro e w2 ⟨⟨A,c,rfl,hT⟩,hb2⟩
   have hk2:=Hk1.out.as_was (hb2.block _ Hk1.out.lt)
   obtain⟨c0,c1,c2,c3,clt⟩:=cells4 hk2
   have hfz:=hk2.frozen
   have HT:=Lhd hT
   have Hb2:=Lhd hb2
   clear hT hk2 hb2
   go_wp2
   go_loop [27] (fun i=>∃ k:Nat,k≤21∧i=.int .i64 k∧Hid (m=((signsL.drop k).find? fun g=>g.isPrefixOf s.data.toList).map fun g=>⟨0,g,0,g.length⟩)) (fun i=>21-(intOf i).toNat)
   case atStart=>exact⟨0,by omega,rfl,Hm⟩
   case round =>
    obtain⟨k,hk,rfl,HF⟩:=hrel
    rcases Nat.lt_or_ge k 21 with hlt|hge
    ·obtain⟨b,o,x,rfl,hbl,hx,hcl⟩:=HT.out.get (k:=k) hlt
     rw[List.getElem?_map] at hx
     obtain⟨g,hg⟩:∃ g,signsL[k]?=some g:=⟨_,List.getElem?_eq_getElem (by simp[signsL];omega)⟩
     rw[hg] at hx
     have hx:str g=x:=by simpa using hx
     subst hx
     have hpf:=Tryz.strings_HasPrefix s (str g) w2
     obtain⟨f1,f2⟩:=find_step (s:=s.data.toList) hg
     have hpf:Calls Tryz.prog 140 #[.string s,.string (str g)] w2 fun e w'=>e=.returned (.bool (g.isPrefixOf s.data.toList))∧w'=w2:=hpf
     have hgl:(str g).size=g.length:=rfl
     obtain⟨q,hq⟩:∃ q,g.isPrefixOf s.data.toList=q:=⟨_,rfl⟩
     rw[hq] at hpf f1 f2
     have Hpf:=Lhd hpf
     have Hgl:=Lhd hgl
     cases q with
     | true =>
      have hm:m=some ⟨0,g,0,g.length⟩:=by rw[HF.out,f1 rfl];rfl
      have Hmm:=Lhd hm
      clear hpf f1 f2 hq hg hm hgl
      go_wp2_with (fail)
      refine Hpf.out.mono ?_
      rintro e w' ⟨rfl,rfl⟩
      go_wp2
      refine bodyPost_ret (ret_word3 Tryz.results100 rfl (Hfin.out _ Hb2.out 0 (str g) 0 0).1 rfl rfl rfl) rfl ⟨?_,(Hfin.out _ Hb2.out 0 (str g) 0 0).2⟩
      rw[Hmm.out]
      rfl
     | false =>
      have hm:=HF.out
      rw[f2 rfl] at hm
      have Hmm:=Lhd hm
      clear hpf f1 f2 hq hg hm hgl
      go_wp2_with (fail)
      refine Hpf.out.mono ?_
      rintro e w' ⟨rfl,rfl⟩
      go_wp2
      go_round
      case rel=>exact⟨k+1,by omega,by go_num,Hmm⟩
      case measure=>simp[intOf];omega
    ·have hm:m=none:=by
      rw[HF.out,List.drop_eq_nil_of_le (by simp[signsL];omega)]
      rfl
     have Hmm:=Lhd hm
     clear hm
     go_wp2
     refine bodyPost_ret (ret_word3 Tryz.results100 rfl (Hfin.out _ Hb2.out 0 ⟨#[]⟩ 0 0).1 rfl rfl rfl) rfl ⟨?_,(Hfin.out _ Hb2.out 0 ⟨#[]⟩ 0 0).2⟩
     rw[Hmm.out]
     exact⟨_,_,_,_,rfl⟩
theorem tyWd:ElemTy Tryz.prog 117 125 4 40 (.agg #[.int .i64 0,.string ByteArray.empty,.int .i64 0,.int .i64 0]):=⟨Tryz.underlying117,by kernel_rfl,rfl,by decide⟩
theorem wrow_len4 (l:List Wd):∀ r∈l.map wrow,r.length=4:=by
 intro r hr
 obtain⟨x,_,rfl⟩:=List.mem_map.1 hr
 rfl
def SaidL (n base:Nat) (m:Nat ⊕ List Wd) (e:Ending) (w':World):Prop:=match m with
 | .inl at_=>e=.returned (.tuple #[.slice none 0 0,.int .i64 at_,.int .i64 12])
 | .inr ws=>∃ A c,e=.returned (.tuple #[.slice A ws.length c,.int .i64 0,.int .i64 0])∧w'.ownsRow base 125 4 (.slice A ws.length c) ws.length (ws.map wrow).flatten∧(∀ x∈ws,okW x)∧ws.length≤n
def WordsSaid (L:List UInt8) (base:Nat) (e:Ending) (w':World):Prop :=
 if 8000<L.length then e=.returned (.tuple #[.slice none 0 0,.int .i64 0,.int .i64 5])
 else SaidL L.length base (lexL L) e w'
theorem ext_lt (s:ByteArray) (k:Nat) (h:k<s.size):0<(s.extract k s.size).size:=by
 rw[← szl,ext_list,List.length_drop,szl];omega
theorem ext_le (s:ByteArray) (k:Nat):(s.extract k s.size).size≤s.size:=by
 rw[← szl,ext_list,List.length_drop,szl];omega
theorem next_ok {s:List UInt8} {x:Nx} (h:nextX s=some x) (hs:s.length≤1000000):okI x.kind∧okS (str x.text)∧okI x.n:=by
 have htk:∀ (p:UInt8→Bool) (s:List UInt8),(s.takeWhile p).length≤s.length:=fun p s=>(List.takeWhile_prefix p).length_le
 have hstr:∀ t:List UInt8,(str t).size=t.length:=fun t=>rfl
 unfold nextX at h
 split at h
 ·have h2:=htk lexB s
  unfold plainX at h
  split at h
  ·cases hn:parseN (s.takeWhile lexB) with
   | none=>rw[hn] at h;cases h
   | some v =>
    rw[hn] at h
    cases h
    unfold parseN at hn
    split at hn
    ·cases hn
    ·split at hn
     ·cases hn
      exact⟨by unfold okI;simp,by unfold okS;rw[hstr];simp only;omega,by unfold okI;simp only;omega⟩
     ·cases hn
  ·split at h
   ·cases h
    exact⟨by unfold okI;simp,by unfold okS;rw[hstr];simp only;omega,by unfold okI;simp⟩
   ·cases h
 ·split at h
  ·unfold quotedX at h
   split at h
   ·cases h
   ·split at h
    ·cases h
     exact⟨by unfold okI;simp,by unfold okS;rw[hstr];simp only;omega,by unfold okI;simp⟩
    ·cases h
  ·unfold signX at h
   cases hf:signsL.find? (fun g=>g.isPrefixOf s) with
   | none=>rw[hf] at h;cases h
   | some g =>
    rw[hf] at h
    cases h
    have h1:=List.find?_some hf
    have h3:g.length≤s.length:=(List.isPrefixOf_iff_prefix.1 h1).length_le
    exact⟨by unfold okI;simp,by unfold okS;rw[hstr];simp only;omega,by unfold okI;simp⟩
theorem lexH_go (f at_:Nat) (s:List UInt8) (hs:s≠[]):lexH (f+1) at_ s=match nextX s with
  | none=>.inl at_
  | some x=>conX ⟨x.kind,str x.text,x.n,at_⟩ (lexH f (at_+x.len+blk false (s.drop x.len)) ((s.drop x.len).drop (blk false (s.drop x.len)))):=by
 show (if s=[] then _ else _)=_
 rw[if_neg hs]
 cases nextX s<;>rfl
theorem lexWords_any (s:ByteArray) (w:World) :
  Calls Tryz.prog 54 #[.string s] w fun x w'=>WordsSaid s.data.toList w.heap.size x w'∧Below w.heap.size w w':=by
 unfold WordsSaid
 rw[szl]
 rcases Nat.lt_or_ge 8000 s.size with h8|h8
 ·simp only[if_pos h8]
  have h9:(8000:Int)<s.size:=by omega
  clear h8
  go_enter Tryz.func54,Tryz.ntmps54
  go_wp2
  refine bodyPost_ret (v:=.tuple #[.slice none 0 0,.int .i64 0,.int .i64 5]) ?_ rfl ⟨rfl,Below.refl _ _⟩
  simp[results,Tryz.results54,go_sem]
 ·have hs:s.size≤1000000000:=by omega
  simp only[if_neg (show ¬ 8000<s.size by omega)]
  have h9:¬ (8000:Int)<s.size:=by omega
  have hbk:=blank_any s w (by omega)
  obtain⟨m,Hm⟩:∃ m,Hid (m=lexL s.data.toList):=⟨_,rfl⟩
  rw[← Hm.out]
  have hb0:=blk_le s.data.toList false
  rw[szl] at hb0
  have hm0:m=appX [] (lexH (s.size+1) (blk false s.data.toList) (s.data.toList.drop (blk false s.data.toList))):=by rw[Hm.out,appX_nil,lexL,szl]
  generalize blk false s.data.toList=k0 at *
  have Hbk:=Lhd hbk
  have Hm0:=Lhd (And.intro hm0 hb0)
  clear hbk hm0 hb0
  go_enter Tryz.func54,Tryz.ntmps54
  go_wp2_with (fail)
  refine Hbk.out.mono ?_
  rintro e w' ⟨rfl,rfl⟩
  go_wp2
  go_loopw [5,6] (fun l i wr=>∃ (k f:Nat) (ws:List Wd) (A:Option Addr) (c:Nat),k≤s.size∧i=.int .i64 k∧l=.slice A ws.length c∧wr.ownsRow w.heap.size 125 4 (.slice A ws.length c) ws.length (ws.map wrow).flatten∧Hid ((∀ x∈ws,okW x)∧ws.length≤k∧m=appX ws (lexH f k (s.data.toList.drop k))∧s.size-k<f)∧Below w.heap.size w wr) (fun _ i _=>s.size-(intOf i).toNat)
  case atStart=>exact⟨k0,s.size+1,[],none,0,Hm0.out.2,rfl,rfl,World.ownsRow_nil _ _ _ _,Lhd ⟨by simp,by simp,Hm0.out.1,by omega⟩,Below.refl _ _⟩
  case round =>
   obtain⟨k,f,ws,A,c,hk,rfl,rfl,hown,HS,hb⟩:=hrel
   have Hown:=Lhd hown
   have Hb:=Lhd hb
   clear hown hb
   rcases Nat.lt_or_ge k s.size with hlt|hge
   ·have hnx:=next_any (s.extract k s.size) wr (ext_lt s k hlt) (by have:=ext_le s k;omega)
    have hln:=fun x h=>next_len (s:=s.data.toList.drop k) (x:=x) h
    have hok:=fun x h=>next_ok (s:=s.data.toList.drop k) (x:=x) h (by rw[List.length_drop,szl];omega)
    rw[ext_list] at hnx
    obtain⟨f,rfl⟩:∃ f',f=f'+1:=⟨f-1,by have:=HS.out.2.2.2;omega⟩
    have hgo:=HS.out.2.2.1
    rw[lexH_go _ _ _ (by rw[drop_at s k hlt];simp)] at hgo
    rw[List.length_drop,szl] at hln
    generalize nextX (s.data.toList.drop k)=nx at *
    have Hnx:=Lhd hnx
    cases nx with
    | none =>
     have hm:m=.inl k:=hgo
     have Hmm:=Lhd hm
     clear hnx hln hok hgo hm
     go_wp2_with (fail)
     refine Hnx.out.mono ?_
     rintro e w2 ⟨⟨k2,t2,n2,m2,rfl⟩,hb2⟩
     have hal:=Hb.out.trans ((hb2.trans ((Below.refl w2.heap.size w2).alloc (Nat.le_refl _) (.cells #[.int .i64 k2,.string t2,.int .i64 n2,.int .i64 0] 125) |>.mono hb2.size)).mono Hb.out.size)
     have Hal:=Lhd hal
     clear hb2 hal
     go_wp2
     refine bodyPost_ret (v:=.tuple #[.slice none 0 0,.int .i64 k,.int .i64 12]) ?_ rfl ⟨?_,Hal.out⟩
     ·simp[results,Tryz.results54,go_sem]
     ·rw[Hmm.out];rfl
    | some x =>
     obtain⟨hl1,hl2⟩:=hln x rfl
     have hokx:=hok x rfl
     have hgo:m=appX ws (conX ⟨x.kind,str x.text,x.n,k⟩ (lexH f (k+x.len+blk false ((s.data.toList.drop k).drop x.len)) (((s.data.toList.drop k).drop x.len).drop (blk false ((s.data.toList.drop k).drop x.len))))):=hgo
     rw[List.drop_drop,appX_con,List.drop_drop] at hgo
     have hbk:=fun wr=>blank_any (s.extract (k+x.len) s.size) wr (by have:=ext_le s (k+x.len);omega)
     rw[ext_list] at hbk
     have hbl:=blk_le (s.data.toList.drop (k+x.len)) false
     rw[List.length_drop,szl] at hbl
     generalize blk false (s.data.toList.drop (k+x.len))=b at *
     have hokw:∀ y∈ws++[⟨x.kind,str x.text,x.n,k⟩],okW y:=by
      intro y hy
      rcases List.mem_append.1 hy with hy|hy
      ·exact HS.out.1 y hy
      ·simp only[List.mem_singleton] at hy
       subst hy
       exact⟨hokx.1,hokx.2.1,hokx.2.2,by unfold okI;simp only;omega⟩
     have hnext:(∀ y∈ws++[⟨x.kind,str x.text,x.n,k⟩],okW y)∧(ws++[(⟨x.kind,str x.text,x.n,k⟩:Wd)]).length≤k+x.len+b∧m=appX (ws++[⟨x.kind,str x.text,x.n,k⟩]) (lexH f (k+x.len+b) (s.data.toList.drop (k+x.len+b)))∧s.size-(k+x.len+b)<f:=⟨hokw,by have:=HS.out.2.1;simp;omega,hgo,by have:=HS.out.2.2.2;omega⟩
     obtain⟨xk,xt,xn,xl⟩:=x
     simp only at hl1 hl2 hbl hbk hnext
     have Hnext:=Lhd hnext
     have Hbk:=Lhd hbk
     have Hl:=Lhd (And.intro hl1 (And.intro hl2 hbl))
     have Hll:=Lhd HS.out.2.1
     have Hnx:Hid (Calls Tryz.prog 100 #[.string (s.extract k s.size)] wr fun e w'=>e=.returned (.tuple #[.agg #[.int .i64 xk,.string (str xt),.int .i64 xn,.int .i64 0],.int .i64 xl,.bool true])∧Below wr.heap.size wr w'):=Lhd Hnx.out
     clear hnx hln hok hgo hokx hokw hnext hbk hbl hl1 hl2
     go_wp2_with (fail)
     refine Hnx.out.mono ?_
     rintro e w2 ⟨rfl,hb2⟩
     have hz2:=hb2.size
     have hk4:IsBlk (w2.alloc (.cells #[.int .i64 xk,.string (str xt),.int .i64 xn,.int .i64 k] 125)) w2.heap.size 125 #[.int .i64 xk,.string (str xt),.int .i64 xn,.int .i64 k]:=IsBlk.laid _ _ _
     have hb4:=hb2.trans (((Below.refl w2.heap.size w2).alloc (Nat.le_refl _) (.cells #[.int .i64 xk,.string (str xt),.int .i64 xn,.int .i64 k] 125)).mono hz2)
     have hown4:=own_below Hown.out hb4
     obtain⟨w4,Hw4⟩:∃ w4,Hid (w4=w2.alloc (.cells #[.int .i64 xk,.string (str xt),.int .i64 xn,.int .i64 k] 125)):=⟨_,rfl⟩
     rw[← Hw4.out] at hk4 hb4 hown4
     have hal5:=(Below.refl w4.heap.size w4).alloc (Nat.le_refl _) (.cells #[.int .i64 xk,.string (str xt),.int .i64 xn,.int .i64 k] 125)
     have hown5:=own_below hown4 hal5
     have hnew:RowsAt (w4.alloc (.cells #[.int .i64 xk,.string (str xt),.int .i64 xn,.int .i64 k] 125)) 4 (some ⟨w4.heap.size,0,none⟩) 1 1 [wrow ⟨xk,str xt,xn,k⟩]:=RowsAt.lit' _ _ 1 rfl rfl (by simp[wrow]) rfl (by unfold maxLen;omega)
     have hmx:ws.length+1≤maxLen:=by have:=Hll.out;unfold maxLen;omega
     have hby:(ws.length+1)*40≤140737488355328:=by have:=Hll.out;omega
     have hba:w.heap.size≤(w4.alloc (.cells #[.int .i64 xk,.string (str xt),.int .i64 xn,.int .i64 k] 125)).heap.size:=by have h1:=Hb.out.size;have h2:=hb4.size;have h3:=hal5.size;omega
     have H4:=Lhd (And.intro hk4 (And.intro hb4 (And.intro hown5 (And.intro hnew (And.intro hmx (And.intro hby (And.intro hba hal5)))))))
     clear hb2 hz2 hk4 hb4 hown4 hown5 hnew hmx hby hba hal5
     go_upto_region 11 with (fail)
     rw[← Hw4.out]
     obtain⟨k0',k1',k2',k3',klt⟩:=cells4 H4.out.1
     obtain⟨s1,s2,s3⟩:=Hl.out
     have s4:k+xl≤s.size:=by omega
     have s5:k+xl+b≤s.size:=by omega
     have s6:((k:Int)+(xl:Int)).toNat=k+xl:=by omega
     go_wp2_with (at_builtin;refine wpList_app (base:=w.heap.size) (xs:=ws.map wrow) (news:=[wrow ⟨xk,str xt,xn,k⟩]) rfl rfl tyWd rfl H4.out.2.2.1 rfl H4.out.2.2.2.1 (by simp[wrow]) (by simp[wrow,Value.oneCell']) H4.out.2.2.2.2.1 H4.out.2.2.2.2.2.1 H4.out.2.2.2.2.2.2.1 ?_;intro A6 c6 w6 hown6 hbut6 hf6)
     have hb6:=Hb.out.trans ((H4.out.2.1.trans (H4.out.2.2.2.2.2.2.2.mono H4.out.2.1.size)).mono Hb.out.size)
     have hb7:=hb6.trans (own_turned H4.out.2.2.1 hbut6 H4.out.2.2.2.2.2.2.1)
     have H7:=Lhd (And.intro hb7 hown6)
     clear hb6 hb7 hown6 hbut6 hf6
     go_wp2_with (fail)
     with_reducible refine(Hbk.out _).mono ?_
     rintro e w' ⟨rfl,rfl⟩
     go_wp2
     go_roundw
     case rel=>exact⟨k+xl+b,f,ws++[⟨xk,str xt,xn,k⟩],A6,c6,s5,by go_num,by simp,by simpa using H7.out.2,Hnext,H7.out.1⟩
     case measure=>simp[intOf];omega
   ·have hm:m=.inr ws:=by
     have h1:=HS.out.2.2.1
     obtain⟨f,rfl⟩:∃ f',f=f'+1:=⟨f-1,by have:=HS.out.2.2.2;omega⟩
     rw[List.drop_eq_nil_of_le (by rw[szl];omega)] at h1
     rw[h1]
     show Sum.inr (ws++[])=_
     rw[List.append_nil]
    have Hmm:=Lhd hm
    clear hm
    go_wp2
    refine bodyPost_ret (v:=.tuple #[.slice A ws.length c,.int .i64 0,.int .i64 0]) ?_ rfl ⟨?_,Hb.out⟩
    ·simp[results,Tryz.results54,go_sem]
    ·rw[Hmm.out]
     exact⟨A,c,rfl,Hown.out,HS.out.1,by have:=HS.out.2.1;omega⟩
end Go.Proofs.YtdgapmnojmhllaaGreatDoor
