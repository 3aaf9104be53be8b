/- Parts of this proof, one behind the other: FloI, FloJ, FloK. -/
import Derived.Test.YtomfpjgcficlgaaGreatFn27
import Derived.Test.YtomfpjgcficlgaaGreatShelfB
import Derived.Deep.DeepCutAuto
import Derived.RegionTactic
import Derived.BigRegion
import Derived.BigQuiet
import Derived.Test.YtomfpjgcficlgaaGreatFn13
set_option maxRecDepth 1000000
set_option maxHeartbeats 40000000
namespace Go.Proofs.YtomfpjgcficlgaaGreat
open Go.RowKit Go.Afx Go.Maps
def valS (xs:List ByteArray):List Value:=xs.map Value.string
theorem valS_swap (P R:List ByteArray) (a b:ByteArray) (j:Nat) (hj:j=P.length+1):((valS (P++b::a::R)).set j (.string b)).set (j-1) (.string a)=valS (P++a::b::R):=by
 subst hj
 have hl:(valS P).length=P.length:=by simp[valS]
 have e:∀ x y:ByteArray,valS (P++x::y::R)=valS P++.string x::.string y::valS R:=fun x y=>by simp[valS]
 rw[e,e,List.set_append_right _ _ (by omega),List.set_append_right _ _ (by omega)]
 have e1:P.length+1-(valS P).length=1:=by omega
 have e2:P.length+1-1-(valS P).length=0:=by omega
 rw[e1,e2]
 rfl
theorem own_swap1 {w:World} {base g n c j:Nat} {T:TypeId} {P R:List ByteArray} {a b:ByteArray} (h:w.ownsRow base T 1 (.slice (some ⟨g,0,none⟩) n c) n (valS (P++b::a::R))) (hj:j=P.length+1) :
  ((w.setCell ⟨g,j,none⟩ (.string b)).setCell ⟨g,j-1,none⟩ (.string a)).ownsRow base T 1 (.slice (some ⟨g,0,none⟩) n c) n (valS (P++a::b::R)):=by
 have h1:=(h.stored j (.string b)).1
 have h2:=(h1.stored (j-1) (.string a)).1
 rw[valS_swap P R a b j hj] at h2
 exact h2
theorem valS_at (P R:List ByteArray) (a:ByteArray) (j:Nat) (hj:j=P.length):(valS (P++a::R))[j]?=some (.string a):=by
 subst hj
 simp[valS]
theorem insR {ρ:ByteArray→Nat} {P R:List ByteArray} {x:ByteArray} (h:(P++R).Pairwise (leR ρ)) (hR:∀ r∈R,leR ρ x r) (hP:∀ p∈P,leR ρ p x):(P++x::R).Pairwise (leR ρ):=by
 rw[List.pairwise_append] at h ⊢
 refine⟨h.1,List.pairwise_cons.2 ⟨hR,h.2.1⟩,fun a ha b hb=>?_⟩
 rcases List.mem_cons.1 hb with rfl|hb
 ·exact hP a ha
 ·exact h.2.2 a ha b hb
theorem lastR {ρ:ByteArray→Nat} {P:List ByteArray} {y x:ByteArray} (h:(P++[y]).Pairwise (leR ρ)) (hy:leR ρ y x):∀ p∈P++[y],leR ρ p x:=by
 rw[List.pairwise_append] at h
 intro p hp
 rcases List.mem_append.1 hp with hp|hp
 ·exact leR_trans (h.2.2 p hp y (by simp)) hy
 ·rw[List.mem_singleton.1 hp];exact hy
theorem KnAt.but {M:List Stp} {kb:Nat} {w w':World} {S:Nat→Prop} (h:KnAt M kb w) (hb:But S w w') (hn:¬ S kb):KnAt M kb w':=by obtain⟨K,hm,hs⟩:=h;exact⟨K,hm.but hb hn,hs⟩
def SortsR (base kb:Nat) (M:List Stp) (A:Option Addr) (n c:Nat) (xs:List ByteArray) (w:World) (e:Ending) (w':World):Prop :=
 ∃ ys:List ByteArray,ys.Perm xs∧ys.Pairwise (leR (rkM M))∧e=.returned (.tuple #[])∧w'.ownsRow base 9 1 (.slice A n c) n (valS ys)∧KnAt M kb w'∧But (fun k=>A.map (·.block)=some k∨k=kb) w w'
theorem insertR_any (base n0 b kb g1 g2:Nat) (M:List Stp) (hr:¬ RoundP M) (A:Option Addr) (n c:Nat) (xs:List ByteArray) (hn:n≤1000) (hl:xs.length=n) (w:World) (hM:∀ x∈xs,x∈M.map Stp.name) (hN:NetAt n0 w b M) (hkb:n0≤kb) (hbase:kb<base) (hg1:g1<base) (hg2:g2<base) (hB:Boxes w g1 g2 b kb) (hK:KnAt M kb w)
  (hown:w.ownsRow base 9 1 (.slice A n c) n (valS xs)) :
  Calls Tryz.prog 88 #[.slice A n c,.int .i64 0,.int .i64 n,.func (.func 49) #[] #[.pointer (some ⟨g1,0,none⟩),.pointer (some ⟨g2,0,none⟩)]] w (SortsR base kb M A n c xs w):=by
 have Hl:=Lhd hl;clear hl
 have hn0:=hN.le
 have HC:=Lhd (fun (x y:ByteArray) (hx:x∈xs) (hy:y∈xs) (W:World) (hW:But (fun k=>A.map (·.block)=some k∨k=kb) w W) (hA:∀ k,A.map (·.block)=some k→base≤k) (hk:KnAt M kb W) =>
  cmpC_any n0 b kb g1 g2 M hr x y W (hM x hx) (hM y hy) (hN.below (hW.below' hn0 (fun i hi=>by rcases hi with hi|hi;have:=hA i hi;omega;omega))) hkb
   ⟨hB.one.as_was (hW.block _ hB.one.lt (by rintro(h|h);have:=hA _ h;omega;exact hB.n1 h)),hB.two.as_was (hW.block _ hB.two.lt (by rintro(h|h);have:=hA _ h;omega;exact hB.n2 h)),hB.n1,hB.n2⟩ hk)
 clear hr hM hN hB
 go_enter Tryz.func88,Tryz.ntmps88
 go_wp2
 go_loopw [8] (fun i wr=>∃ (k:Nat) (ws':List ByteArray),1≤k∧i=.int .i64 k∧ws'.Perm xs∧(ws'.take k).Pairwise (leR (rkM M))∧wr.ownsRow base 9 1 (.slice A n c) n (valS ws')∧KnAt M kb wr∧But (fun k=>A.map (·.block)=some k∨k=kb) w wr) (fun i _=>n-(intOf i).toNat)
 case atStart=>exact⟨1,xs,by omega,rfl,.refl _,by match xs with|[]=>simp|[_]=>simp|_::_::_=>simp,hown,hK,But.refl _ _⟩
 case round =>
  obtain⟨k,ws',h1,rfl,hperm,hsort,hown',hkn,hbut⟩:=hrel
  have Hsort:=Lhd hsort;clear hsort
  have Hperm:=Lhd hperm
  by_cases hlt:k<n
  ·have hlen':Hid (ws'.length=n):=Lhd (hperm.length_eq.trans Hl.out)
   obtain⟨xa,hxk⟩:∃ xa,ws'[k]?=some xa:=⟨_,List.getElem?_eq_getElem (by rw[hlen'.out];exact hlt)⟩
   have Hsplit:Hid (ws'=ws'.take k++xa::ws'.drop (k+1)):=by
    refine Lhd ?_
    obtain⟨hk',hx'⟩:=List.getElem?_eq_some_iff.1 hxk
    rw[← hx',← List.drop_eq_getElem_cons hk',List.take_append_drop]
   have Htl:Hid ((ws'.take k).length=k):=Lhd (by rw[List.length_take,hlen'.out];omega)
   have Hxk:=Lhd hxk;clear hxk hperm
   go_wp2
   go_loopw [9] (fun i wr=>∃ (j:Nat) (P R:List ByteArray),j=P.length∧i=.int .i64 j∧P++R=ws'.take k∧(∀ r∈R,leR (rkM M) xa r)∧wr.ownsRow base 9 1 (.slice A n c) n (valS (P++xa::(R++ws'.drop (k+1))))∧KnAt M kb wr∧But (fun k=>A.map (·.block)=some k∨k=kb) w wr) (fun i _=>(intOf i).toNat)
   case atStart=>exact⟨k,ws'.take k,[],Htl.out.symm,rfl,by simp,by simp,by rw[List.nil_append,← Hsplit.out];exact hown',hkn,hbut⟩
   case round =>
    obtain⟨j,P,R,hjP,rfl,hPR,hR,hown'',hkn',hbut'⟩:=hrel
    have HjP:=Lhd hjP;clear hjP
    have HPR:=Lhd hPR;clear hPR
    have HR:=Lhd hR;clear hR
    have hjk:j≤k:=by
     have h:=congrArg List.length HPR.out
     rw[List.length_append,Htl.out,← HjP.out] at h
     omega
    have Hp2:Hid ((P++xa::(R++ws'.drop (k+1))).Perm xs):=by
     refine Lhd ?_
     have h1:(P++xa::(R++ws'.drop (k+1))).Perm (P++R++xa::ws'.drop (k+1)):=by
      rw[List.append_assoc]
      exact List.Perm.append_left P List.perm_middle.symm
     refine h1.trans ?_
     rw[HPR.out,← Hsplit.out]
     exact Hperm.out
    -- behind the loop: all up to k is sorted
    have Hout:Hid ((∀ p∈P,leR (rkM M) p xa)→((P++xa::(R++ws'.drop (k+1))).take (k+1)).Pairwise (leR (rkM M))):=by
     refine Lhd fun hP=>?_
     have h2:(P++xa::(R++ws'.drop (k+1))).take (k+1)=P++xa::R:=by
      have e:P++xa::(R++ws'.drop (k+1))=(P++xa::R)++ws'.drop (k+1):=by simp
      rw[e]
      have hl:(P++xa::R).length=k+1:=by
       have h:=congrArg List.length HPR.out
       rw[List.length_append,Htl.out] at h
       rw[List.length_append,List.length_cons]
       omega
      rw[← hl,List.take_left]
     rw[h2]
     exact insR (by rw[HPR.out];exact Hsort.out) HR.out hP
    by_cases h0:0<j
    ·obtain⟨g,cap,hA,hb,hg⟩:=hown''.form (by omega)
     simp only[Value.slice.injEq] at hA
     obtain⟨rfl,_,rfl⟩:=hA
     obtain⟨P',yb,Hpp⟩:∃ P' yb,Hid (P=P'++[yb]):=by
      have hne:P≠[]:=by rintro rfl;have:=HjP.out;simp at this;omega
      exact⟨P.dropLast,P.getLast hne,Lhd (List.dropLast_concat_getLast hne).symm⟩
     have Hj':Hid (j=P'.length+1):=Lhd (by rw[HjP.out,Hpp.out];simp)
     have He:Hid (P++xa::(R++ws'.drop (k+1))=P'++yb::xa::(R++ws'.drop (k+1))):=Lhd (by rw[Hpp.out];simp)
     have hx:=valS_at P (R++ws'.drop (k+1)) xa j HjP.out
     have hy:=valS_at P' (xa::(R++ws'.drop (k+1))) yb (j-1) (by have:=Hj'.out;omega)
     rw[← He.out] at hy
     have hc0:wr.cell? ⟨g,j,none⟩=some (.string xa):=(hown''.cellAt j (by omega)).trans hx
     have hd0:wr.cell? ⟨g,j-1,none⟩=some (.string yb):=(hown''.cellAt (j-1) (by omega)).trans hy
     have hxm:xa∈xs:=Hp2.out.mem_iff.1 (by simp)
     have hym:yb∈xs:=Hp2.out.mem_iff.1 (by rw[He.out];simp)
     have Hc:=Lhd (HC.out xa yb hxm hym wr.drew hbut'.drew (fun q hq=>by (simp at hq;omega)) (hkn'.below (Below.refl _ _).drew))
     clear hx hy hxm hym
     have hw1:IntKind.i64.wrap ((j:Int)-1)=(j:Int)-1:=IntWalk.i64_in _ (by omega)
     have hw2:0≤(j:Int)-1:=by omega
     have hw3:((j:Int)-1).toNat=j-1:=by omega
     have ht:decide ((0:Int)<(j:Int))=true:=by simp;omega
     have hj1:j-1<n:=by omega
     have hw4:(j:Int)-1<(n:Int):=by omega
     have hw5:(j:Int)<(n:Int):=by omega
     have hw6:1≤(j:Int):=by omega
     have hw7:(j:Int)≤(n:Int):=by omega
     have hw8:1≤j:=by omega
     have hj0:j<n:=by omega
     have hgk:g≠kb:=by omega
     have HK2:=Lhd (fun (w':World) (hb:But (fun k=>k=kb) wr.drew w')=>And.intro (own_but hown'' (But.trans' (But.drew (But.refl (fun k=>k=kb) wr)) hb) (fun q hq=>by (simp[Value.ownBlock] at hq;omega)))
      (And.intro ((hb.cell (p:=⟨g,j,none⟩) hg hgk).trans hc0) ((hb.cell (p:=⟨g,j-1,none⟩) hg hgk).trans hd0)))
     by_cases hcs:cmpR (rkM M) xa yb<0
     ·have Hcs:=Lhd (cmpR_neg hcs)
      have sA:wr.drew.cell? ⟨g,j,none⟩=some (.string xa)∧wr.drew.cell? ⟨g,j-1,none⟩=some (.string yb)∧g<wr.drew.heap.size:=⟨hc0,hd0,hg⟩
      go_wp2
      go_region_held3 (fun w'=>w'.cell? ⟨g,j,none⟩=some (.string xa)∧w'.cell? ⟨g,j-1,none⟩=some (.string yb)∧g<w'.heap.size) ((first|with_reducible exact sA|with_reducible exact sB|(simp[*];done)))
       (first|(go_at_call 49;refine Hc.out.mono ?_;rintro e w' ⟨rfl,hkn3,hb3⟩;obtain⟨hown3,sB1,sB2⟩:=HK2.out w' hb3;have hsg:g<w'.heap.size:=Nat.lt_of_lt_of_le hg hb3.size;have sB:=And.intro sB1 (And.intro sB2 hsg);have hfz:=hown3.frozenAt;have hbw3:=hbut'.drew.trans' (hb3.mono (S':=fun k=>some g=some k∨k=kb) (fun i hi=>.inl (.inr hi)))))
      go_wp2
      go_region
      go_wp2
      go_roundw
      case rel =>
       refine⟨j-1,P',yb::R,by have:=Hj'.out;omega,by go_num,by rw[← HPR.out,Hpp.out];simp,?_,?_,?_,?_⟩
       ·intro r hr
        rcases List.mem_cons.1 hr with rfl|hr
        ·exact Hcs.out
        ·exact HR.out r hr
       ·rw[He.out] at hown3
        exact(own_swap1 hown3 Hj'.out).drew
       ·exact KnAt.but (S:=fun k=>k=g) hkn3 ((((But.refl (fun k=>k=g) w').setCell (p:=⟨g,j,none⟩) (.inl rfl) _).setCell (p:=⟨g,j-1,none⟩) (.inl rfl) _).drew) (fun h=>hgk h.symm)
       ·exact((hbw3.setCell (p:=⟨g,j,none⟩) (.inl (.inl rfl)) _).setCell (p:=⟨g,j-1,none⟩) (.inl (.inl rfl)) _).drew
      case measure=>simp[intOf];omega
     ·have hcs':decide (cmpR (rkM M) xa yb<0)=false:=by simpa using hcs
      have HF:=Lhd (Hout.out (by
       rw[Hpp.out]
       refine lastR (y:=yb) (by rw[← Hpp.out];have h:=Hsort.out;rw[← HPR.out,List.pairwise_append] at h;exact h.1) ?_
       exact cmpR_pos hcs))
      clear hcs
      have sA:wr.drew.cell? ⟨g,j,none⟩=some (.string xa)∧wr.drew.cell? ⟨g,j-1,none⟩=some (.string yb)∧g<wr.drew.heap.size:=⟨hc0,hd0,hg⟩
      go_wp2
      go_region_held3 (fun w'=>w'.cell? ⟨g,j,none⟩=some (.string xa)∧w'.cell? ⟨g,j-1,none⟩=some (.string yb)∧g<w'.heap.size) ((first|with_reducible exact sA|with_reducible exact sB|(simp[*];done)))
       (first|(go_at_call 49;refine Hc.out.mono ?_;rintro e w' ⟨rfl,hkn3,hb3⟩;obtain⟨hown3,sB1,sB2⟩:=HK2.out w' hb3;have hsg:g<w'.heap.size:=Nat.lt_of_lt_of_le hg hb3.size;have sB:=And.intro sB1 (And.intro sB2 hsg);have hfz:=hown3.frozenAt;have hbw3:=hbut'.drew.trans' (hb3.mono (S':=fun k=>some g=some k∨k=kb) (fun i hi=>.inl (.inr hi)))))
      go_wp2
      go_roundw
      case rel=>exact⟨k+1,_,by omega,by go_num,Hp2.out,HF.out,hown3,hkn3,hbw3⟩
      case measure=>simp[intOf];omega
    ·have HF:Hid (_):=Lhd (Hout.out (by
      have e:P=[]:=List.eq_nil_of_length_eq_zero (by have:=HjP.out;omega)
      rw[e];simp))
     obtain rfl:j=0:=by omega
     go_wp2
     go_quiet (fail)
     go_wp2
     go_roundw
     case rel=>exact⟨k+1,_,by omega,by go_num,Hp2.out,HF.out,hown'',hkn'.below (below_drewN (Below.refl _ _) _),hbut'.drewN _⟩
     case measure=>simp[intOf];omega
  ·go_wp2
   go_end0
   exact⟨ws',hperm,by have h:=Hsort.out;rwa [List.take_of_length_le (by rw[hperm.length_eq,Hl.out];omega)] at h,rfl,hown',hkn,hbut⟩
theorem pdqR_any (base n0 b kb g1 g2:Nat) (M:List Stp) (hr:¬ RoundP M) (A:Option Addr) (n c:Nat) (L:Int) (xs:List ByteArray) (hn:n≤12) (hl:xs.length=n) (w:World) (hM:∀ x∈xs,x∈M.map Stp.name) (hN:NetAt n0 w b M) (hkb:n0≤kb) (hbase:kb<base) (hg1:g1<base) (hg2:g2<base) (hB:Boxes w g1 g2 b kb) (hK:KnAt M kb w)
  (hown:w.ownsRow base 9 1 (.slice A n c) n (valS xs)) :
  Calls Tryz.prog 74 #[.slice A n c,.int .i64 0,.int .i64 n,.int .i64 L,.func (.func 49) #[] #[.pointer (some ⟨g1,0,none⟩),.pointer (some ⟨g2,0,none⟩)]] w (SortsR base kb M A n c xs w):=by
 have Hi:=Lhd (insertR_any base n0 b kb g1 g2 M hr A n c xs (by omega) hl w hM hN hkb hbase hg1 hg2 hB hK hown)
 have h12:(n:Int)≤12:=by omega
 have hsb:IntKind.i64.wrap ((n:Int)-0)=(n:Int):=by rw[Int.sub_zero];exact IntWalk.i64_in _ (by omega)
 clear hr hM hN hB hK hown
 go_enter Tryz.func74,Tryz.ntmps74
 go_wp2
 refine wp_loop_rounds 1 ?_
 rw[rounds_succ]
 go_wp2_with (go_at_call 88;refine Hi.out.mono ?_;rintro e w' ⟨ys,hp,hs,rfl,ho,hk,hb⟩)
 go_end0
 exact⟨ys,hp,hs,rfl,ho,hk,hb⟩
theorem sortR_any (base n0 b kb g1 g2:Nat) (M:List Stp) (hr:¬ RoundP M) (A:Option Addr) (n c:Nat) (xs:List ByteArray) (hn:n≤12) (hl:xs.length=n) (w:World) (hM:∀ x∈xs,x∈M.map Stp.name) (hN:NetAt n0 w b M) (hkb:n0≤kb) (hbase:kb<base) (hg1:g1<base) (hg2:g2<base) (hB:Boxes w g1 g2 b kb) (hK:KnAt M kb w)
  (hown:w.ownsRow base 9 1 (.slice A n c) n (valS xs)) :
  Calls Tryz.prog 48 #[.slice A n c,.func (.func 49) #[] #[.pointer (some ⟨g1,0,none⟩),.pointer (some ⟨g2,0,none⟩)]] w (SortsR base kb M A n c xs w):=by
 have Hp:=Lhd (fun L=>pdqR_any base n0 b kb g1 g2 M hr A n c L xs hn hl w hM hN hkb hbase hg1 hg2 hB hK hown)
 have hw0:IntKind.u64.wrap (n:Int)=(n:Int):=by rw[IntKind.wrap_u64];omega
 have hn0:(0:Int)≤(n:Int):=by omega
 have hn1:(n:Int)≤18446744073709551615:=by omega
 clear hr hM hN hB hK hown
 go_enter Tryz.func48,Tryz.ntmps48
 go_wp2_with (first
  | (go_at_call 43;refine(Tryz.bits_Len _ _ hn0 hn1).mono ?_;rintro e w' ⟨rfl,rfl⟩)
  | (go_at_call 74;refine(Hp.out _).mono ?_;rintro e w' ⟨ys,hp,hs,rfl,ho,hk,hb⟩))
 go_end0
 exact⟨ys,hp,hs,rfl,ho,hk,hb⟩
open Go.RowKit Go.Afx Go.Maps Go.Shelf
theorem keys_perm {w:World} {b n:Nat} {E:List (ByteArray×Value)} {D:DataW Value} (hn:(E.map (·.1)).Nodup) (hok:∀ p∈E,okS p.1) (ho:w.ownsMap Tryz.prog 9 rawR b n D) (hD:∀ s,okS s→∀ z,D.atKey (litB s) z=(ent E s).elim z DataW.held) :
  ((E.map (·.1)).map fun s=>s.data.toList).Perm (strKeys D):=by
 obtain⟨es,hDe,hpw,_⟩:=ho.entries strKeyed
 obtain⟨es',hDe',hko⟩:=ho.keysOf
 obtain rfl:es=es':=by rw[hDe] at hDe';simpa using hDe'
 subst hDe
 refine perm_strKeys hpw (fun p hp=>by obtain⟨v,hv⟩:=hko p hp;obtain⟨x,_,hx,_⟩:=Maps.keyOf_str Tryz.underlying9 hv;exact⟨x,hx⟩) ?_ fun x=>?_
 ·refine List.pairwise_map.2 (hn.imp fun {a b} hne e=>hne (ByteArray.ext (Array.toList_inj.1 e)))
 ·constructor
  ·intro hx
   obtain⟨s,hs,rfl⟩:=List.mem_map.1 hx
   obtain⟨p,hp,rfl⟩:=List.mem_map.1 hs
   have h:=ent_has hD (hok p hp)
   rw[ent_of_mem hn (s:=p.1) (v:=p.2) hp] at h
   exact h
  ·intro hx
   have hx2:=hx
   rw[has_eq,List.any_eq_true] at hx2
   obtain⟨p,hp,hs⟩:=hx2
   obtain⟨v,hv⟩:=hko p hp
   obtain⟨y,_,hy,hyl⟩:=Maps.keyOf_str Tryz.underlying9 hv
   have hxy:y=x:=by rw[hy] at hs;simpa [Lit.sameKey] using hs
   subst hxy
   have hoky:okS (mkB y):=by unfold okS mkB;unfold maxLen at hyl;simp[ByteArray.size];omega
   have hlit:litB (mkB y)=.string y:=by unfold litB;rw[of_mkB]
   have h:=ent_has hD hoky
   rw[hlit,hx] at h
   refine List.mem_map.2 ⟨mkB y,?_,of_mkB y⟩
   cases he:ent E (mkB y) with
   | none=>rw[he] at h;cases h
   | some u=>exact List.mem_map_of_mem (f:=(·.1)) (ent_mem he)
theorem collectK_any (mb:Nat) (R:List ByteArray) (w:World) (h:MapAt Tryz.prog 9 w mb (setE R)) (hR:R.length≤1000) :
  Calls Tryz.prog 46 #[.func (.func 73) #[] #[.pointer (some ⟨w.heap.size,0,none⟩)]] (w.alloc (.cells #[.map (some mb)] 89)) fun e w' =>
   ∃ A c ys,e=.returned (.slice A (List.length ys) c)∧List.Perm ys R∧w'.ownsRow (w.heap.size+1) 9 1 (.slice A ys.length c) ys.length (valS ys)∧Below w.heap.size w w':=by
 have hlt:=h.lt
 have hbl:Below w.heap.size w (w.alloc (.cells #[.map (some mb)] 89)):=(Below.refl _ _).alloc (Nat.le_refl _) _
 obtain⟨D,ho,hD⟩:=(h.alloc (.cells #[.map (some mb)] 89)).own
 have hsz:=World.ownsMap.size_le ho
 have hel:(setE R).length=R.length:=by unfold setE;rw[List.length_map]
 have hkp:=keys_perm h.once h.ok ho hD
 have hseq:SeqGives Fence.wide 2 Tryz.prog 73 #[.pointer (some ⟨w.heap.size,0,none⟩)] encStr (fun ss=>ss.Perm (strKeys D)) (Maps.size D) (w.alloc (.cells #[.map (some mb)] 89)) :=
  AnyZ.keys_gives (ρ:=Tryz.keysZ_ren) { Tryz.keysZ with } Fence.wide _ trivial rfl (by omega) w.heap.size mb _ _ _ (by simp) (by simp) ho
 have cS:=AnyZ.collect_in (ρ:=Tryz.sortedZ_ren) { Tryz.sortedZ with } Fence.wide 4 trivial trivial rfl (by omega) 73 #[.pointer (some ⟨w.heap.size,0,none⟩)] trivial (enters_of Tryz.func73 (by kernel_rfl) rfl) _ _ (by unfold maxLen;omega) (by omega) _ hseq
 refine(callsIn_wide.1 cS).mono ?_
 rintro e w' ⟨v,ss,rfl,hperm,hrow,_,hb⟩
 obtain⟨A,c,rfl,_⟩:=ownsRow_form hrow
 refine⟨A,c,ss.map mkB,by rw[List.length_map],?_,?_,hbl.trans (hb.mono (by simp))⟩
 ·have h1:=(hperm.trans hkp.symm).map mkB
  rw[setE_keys,List.map_map] at h1
  have e:(mkB ∘ fun s:ByteArray=>s.data.toList)=id:=by funext s;exact mkB_of s
  rwa [e,List.map_id] at h1
 ·rw[List.length_map]
  have e:valS (ss.map mkB)=ss.map encStr:=by unfold valS;rw[List.map_map];rfl
  rw[e]
  exact own_base hrow (by simp)
def FlowOwn (M:List Stp) (S:List ByteArray) (w:World) (e:Ending) (w':World):Prop :=
 ∃ A c r,e=.returned (.slice A (List.length r) c)∧FlowIs M S r∧w'.ownsRow w.heap.size 9 1 (.slice A r.length c) r.length (valS r)∧Below w.heap.size w w'
theorem flow_any (n0:Nat) (w:World) (b:Nat) (M:List Stp) (F:Nat→Prop) (A:Option Addr) (n c:Nat) (S:List ByteArray) (hN:NetAt n0 w b M) (h:LsAt F w 1 SRow A n c S) (hr:¬ RoundP M) (h12:M.length≤12) :
  Calls Tryz.prog 30 #[.map (some b),.slice A n c] w (FlowOwn M S w):=by
 have hmm:=@run_makeMap Tryz.prog
 have hn0:=hN.le
 have hbn:=hN.lt
 obtain⟨w2,Hw2⟩:∃ w2,Hid (w2=(((w.alloc (.cells #[.map (some b)] 68)).alloc (.map #[] 0)).alloc (.cells #[.map (some (w.heap.size+1))] 76))):=⟨_,rfl⟩
 have hb2:Below w.heap.size w w2:=by rw[Hw2.out];exact(((Below.refl _ _).alloc (Nat.le_refl _) _).alloc (by simp) _).alloc (by simp;omega) _
 have hs2:w2.heap.size=w.heap.size+3:=by rw[Hw2.out];simp
 have hk1:IsBlk w2 w.heap.size 68 #[.map (some b)]:=by rw[Hw2.out];exact((IsBlk.laid _ _ _).alloc _).alloc _
 have hk2:IsBlk w2 (w.heap.size+2) 76 #[.map (some (w.heap.size+1))]:=by rw[Hw2.out];exact laid_at (by simp) _ _
 have hm2:MapAt Tryz.prog 9 w2 (w.heap.size+1) (knE M []):=by rw[Hw2.out];exact(mapMade (by simp)).alloc _
 have HX:=Lhd (fun W (hW:Below w2.heap.size w2 W)=>(⟨⟨hk1.as_was (hW.block _ hk1.lt),hk2.as_was (hW.block _ hk2.lt),by omega,by omega⟩,[],hm2.below hW,by simp⟩:Boxes W w.heap.size (w.heap.size+2) b (w.heap.size+1)∧KnAt M (w.heap.size+1) W))
 have HN:=Lhd (fun W (hW:Below w.heap.size w W)=>hN.later hW)
 have hd2:Below w2.heap.size w2 w2.drew:=(Below.refl _ _).drew
 have hd2':=hb2.trans (hd2.mono hb2.size)
 have Hcon:=Lhd (consumers_any n0 w2.drew b M F A n c S (hN.later hd2') (h.below hd2'))
 have sA:=(HX.out _ hd2).1.cells.1
 have Hd2:=Lhd hd2
 have Hb2:=Lhd hb2
 have Hr:=Lhd hr
 have Hnok:=Lhd hN.names
 clear hk1 hk2 hm2 hd2 hd2' hb2 hr hN h
 go_enter Tryz.func30,Tryz.ntmps30
 go_wp2
 rw[← Hw2.out]
 go_region_held3 (fun W=>W.cell? ⟨w.heap.size,0,none⟩=some (.map (some b))) (first|with_reducible exact sA|with_reducible exact sB|with_reducible exact sC|with_reducible exact sD|with_reducible exact sE) (first
  | (go_at_call 27;refine Hcon.out.mono ?_;rintro e w3 ⟨A3,c3,rfl,hown3,hb3⟩;have hb3:Below w2.heap.size w2 w3:=Hd2.out.trans hb3;have sB:=(HX.out _ hb3).1.cells.1;have hbw3:=Hb2.out.trans (hb3.mono Hb2.out.size);have Hre:=Lhd (reached_any n0 w3 b M (fun _=>True) A3 _ c3 (consN M S) (HN.out w3 hbw3) (ls_strs hown3 rfl (fun x hx=>(HN.out w3 hbw3).names_ok x hx) (fun _ _ _=>trivial)) (fun x hx=>namesN_sub hx) (Nat.le_trans (namesN_length _ _) (by omega)) Hnok.out))
  | (go_at_call 45;refine Hre.out.mono ?_;rintro e w4 ⟨mb,R,rfl,hMR,hR,hb4⟩;have hb4:Below w2.heap.size w2 w4:=hb3.trans (hb4.mono hb3.size);have sC:=(HX.out _ hb4).1.cells.1;have HR:=Lhd hR;clear hR;have Hnd:=Lhd (by (have h1:=hMR.once;rw[setE_keys] at h1;exact h1));have hRl:R.length≤M.length:=(by (have h1:=List.Nodup.length_le_of_subset Hnd.out (fun x hx=>Rch.names (fun y hy=>namesN_sub hy) ((HR.out x).1 hx));rwa [List.length_map] at h1)))
  | (go_at_call 47;refine(keys_any _ _).mono ?_;rintro e w5 ⟨rfl,rfl⟩;have sD:=(HX.out _ (hb4.alloc hb4.size (.cells #[.map (some mb)] 89))).1.cells.1)
  | (go_at_call 46;refine(collectK_any mb R w4 hMR (by omega)).mono ?_;rintro e w6 ⟨A6,c6,ys,rfl,hp6,hown6,hb6⟩;have hb6:Below w2.heap.size w2 w6:=hb4.trans (hb6.mono hb4.size);have sE:=(HX.out _ hb6).1.cells.1))
 all_goals
  have h4s:=hb4.size
  have hbw6:Below w.heap.size w w6:=Hb2.out.trans (hb6.mono Hb2.out.size)
  have hrow6:=own_base hown6 (base':=w.heap.size+3) (by omega)
  have Hl6:=Lhd (hp6.length_eq)
  have Hp6:=Lhd hp6
  have Hs:=Lhd (sortR_any (w.heap.size+3) n0 b (w.heap.size+1) w.heap.size (w.heap.size+2) M Hr.out A6 ys.length c6 ys (by rw[Hl6.out];omega) rfl w6 (fun x hx=>Rch.names (fun y hy=>namesN_sub hy) ((HR.out x).1 (hp6.mem_iff.1 hx))) (HN.out w6 hbw6) (by omega) (by omega) (by omega) (by omega) (HX.out w6 hb6).1 (HX.out w6 hb6).2 hrow6)
  have Hrow6:=Lhd hrow6
  clear hp6 hrow6
  go_wp2_with (go_at_call 48;refine Hs.out.mono ?_;rintro e w7 ⟨zs,hpz,hsz,rfl,ho7,hkn7,hb7⟩)
  go_ret
  have hlz:zs.length=ys.length:=hpz.length_eq
  refine⟨A6,c6,zs,by rw[hlz];rfl,⟨(hpz.trans Hp6.out).nodup_iff.2 Hnd.out,fun x=>(hpz.trans Hp6.out).mem_iff.trans (HR.out x),hsz⟩,by rw[hlz];exact own_base ho7 (by omega),?_⟩
  exact hbw6.trans (hb7.below' hbw6.size (fun i hi=>by
   rcases hi with hi|hi
   ·rcases Nat.lt_or_ge i (w.heap.size+3) with h|h
    ·exact absurd hi (own_row_ne Hrow6.out h)
    ·omega
   ·omega))
def NmRow (r:List Value) (s:ByteArray):Prop:=(∃ A n c,r=[.string s,.slice A n c])∧okS s
def catV (A1:Option Addr) (n1 c1:Nat) (A:Option Addr) (n c:Nat):Value:=.agg #[.slice none 0 0,.slice A1 n1 c1,.slice none 0 0,.slice none 0 0,.slice A n c]
structure CatAt (w:World) (A1:Option Addr) (n1 c1:Nat) (A:Option Addr) (n c:Nat) (ss:List ByteArray) (ps:List Pr):Prop where
 streams:LsAt (fun k=>k<w.heap.size) w 2 NmRow A1 n1 c1 ss
 procs:LsAt (fun k=>k<w.heap.size) w 6 (PrAt (fun k=>k<w.heap.size) 2 w) A n c ps
 few1:n1≤100
 few:n≤12
 small:∀ p∈ps,p.params.length≤1000000∧(emitsP 2 p).length≤1000000∧∀ s∈emitsP 2 p,okS s
 bodies:∀ p∈ps,p.body.length≤8
theorem CatAt.below {w w':World} {A1 A:Option Addr} {n1 c1 n c:Nat} {ss:List ByteArray} {ps:List Pr} (h:CatAt w A1 n1 c1 A n c ss ps) (hb:Below w.heap.size w w'):CatAt w' A1 n1 c1 A n c ss ps :=
  ⟨h.streams.conv (Kept.of_below hb) (fun _ _ _ hk=>Nat.lt_of_lt_of_le hk hb.size) (fun _ _ _ h=>h),
   h.procs.conv (Kept.of_below hb) (fun _ _ _ hk=>Nat.lt_of_lt_of_le hk hb.size) (fun _ _ _ hx=>PrAt.conv (fun _ hk=>Nat.lt_of_lt_of_le hk hb.size) (Kept.of_below hb) (Nat.le_refl _) hx),h.few1,h.few,h.small,h.bodies⟩
def netC (ps:List Pr):List Stp:=netOf (ps.map (stpOf 2))
theorem netC_few {w:World} {A1 A:Option Addr} {n1 c1 n c:Nat} {ss:List ByteArray} {ps:List Pr} (h:CatAt w A1 n1 c1 A n c ss ps):(netC ps).length≤12:=by
 have h1:=netOf_length (ps.map (stpOf 2))
 have h2:=h.procs.len
 have h3:=h.few
 rw[List.length_map] at h1
 unfold netC
 omega
theorem CatAt.of {w:World} {A1 A:Option Addr} {n1 c1 n c:Nat} {ss:List ByteArray} {ps:List Pr} (h:CatAt w A1 n1 c1 A n c ss ps):Calls Tryz.prog 23 #[catV A1 n1 c1 A n c] w (NetIs w (netC ps)) :=
 of_any _ 2 none A1 none none A 0 n1 0 0 n 0 c1 0 0 c ps w h.procs (fun _ hk=>hk) (by omega) (by have:=h.few;omega) h.small
def FlowRes (M:List Stp) (S:List ByteArray) (w:World) (e:Ending) (w':World):Prop :=
 (RoundP M∧e=.returned (.tuple #[.slice none 0 0,.int .i64 20])∧Below w.heap.size w w') ∨
 (¬ RoundP M∧∃ A c r,e=.returned (.tuple #[.slice A (List.length r) c,.int .i64 0])∧FlowIs M S r∧NamesAt w' A r.length c r∧Below w.heap.size w w')
theorem names_own {w:World} {base:Nat} {A:Option Addr} {c:Nat} {r:List ByteArray} (h:w.ownsRow base 9 1 (.slice A r.length c) r.length (r.map Value.string)):NamesAt w A r.length c r:=by
 unfold NamesAt
 refine RowsAt.of_own (e:=9) (base:=base) ?_ (by intro x hx;obtain⟨s,_,rfl⟩:=List.mem_map.1 hx;rfl) (by simp)
 have e:(r.map srow).flatten=r.map Value.string:=strRow r
 rw[e];exact h
def RndIs (M:List Stp) (q:Bool):Prop:=q=true ↔ RoundP M
theorem RndIs.eq {M:List Stp} {p q:Bool} (h:RndIs M q) (k:p=true ↔ RoundP M):p=q:=Bool.eq_iff_iff.2 (k.trans (Iff.symm h))
theorem RndIs.no {M:List Stp} (h:RndIs M false):¬ RoundP M:=fun hh=>Bool.false_ne_true ((show false=true ↔ RoundP M from h).2 hh)
theorem RndIs.yes {M:List Stp} (h:RndIs M true):RoundP M:=(show true=true ↔ RoundP M from h).1 rfl
theorem round_bit (M:List Stp):∃ q:Bool,RndIs M q:=by
 by_cases h:RoundP M
 ·exact⟨true,by unfold RndIs;simp[h]⟩
 ·exact⟨false,by unfold RndIs;simp[h]⟩
theorem flowT_any (A1 A A2:Option Addr) (n1 c1 n c n2 c2:Nat) (ss:List ByteArray) (ps:List Pr) (F:Nat→Prop) (S:List ByteArray) (w:World) (h:CatAt w A1 n1 c1 A n c ss ps) (hS:LsAt F w 1 SRow A2 n2 c2 S) :
  Calls Tryz.prog 17 #[catV A1 n1 c1 A n c,.slice A2 n2 c2] w (FlowRes (netC ps) S w):=by
 have hb1:∀ o,Below w.heap.size w (w.alloc o):=fun o=>(Below.refl _ _).alloc (Nat.le_refl _) o
 have Hof:=Lhd (fun W (hW:Below w.heap.size w W)=>(h.below hW).of)
 have Hb1:=Lhd hb1
 have HS:=Lhd (fun W (hW:Below w.heap.size w W)=>hS.below hW)
 have h12:=netC_few h
 clear hb1 h hS
 unfold catV at *
 obtain⟨rb,Hrb⟩:=round_bit (netC ps)
 cases rb
 all_goals
  go_enter Tryz.func17,Tryz.ntmps17
  go_wp2_with (first
   | (go_at_call 23;refine(Hof.out _ (Hb1.out _)).mono ?_;rintro e w2 ⟨b,rfl,hN,hb2⟩;have hbw2:Below w.heap.size w w2:=(Hb1.out _).trans (hb2.mono (by simp));have HN:=Lhd hN;have Hro:=Lhd (round_any _ w2 b (netC ps) hN))
   | (go_at_call 28;refine Hro.out.mono ?_;rintro e w3 ⟨⟨q,rfl,hq⟩,hb3⟩;have hbw3:Below w.heap.size w w3:=hbw2.trans (hb3.mono hbw2.size);have hq2:=Hrb.eq hq;subst hq2;clear hq;have Hfl:=Lhd (flow_any _ w3 b (netC ps) F A2 n2 c2 S (HN.out.later hb3) (HS.out w3 hbw3)))
   | (go_at_call 30;refine(Hfl.out Hrb.no h12).mono ?_;rintro e w4 ⟨A4,c4,r,rfl,hF,ho4,hb4⟩))
 ·go_ret2
  exact .inr ⟨Hrb.no,A4,c4,r,rfl,hF,names_own ho4,hbw3.trans (hb4.mono hbw3.size)⟩
 ·go_ret2
  exact .inl ⟨Hrb.yes,rfl,hbw3⟩
def RankRes (M:List Stp) (x:ByteArray) (w:World) (e:Ending) (w':World):Prop :=
 ((RoundP M∧e=.returned (.tuple #[.int .i64 0,.int .i64 20]))∨(¬ RoundP M∧e=.returned (.tuple #[.int .i64 (rkM M x:Int),.int .i64 0])))∧Below w.heap.size w w'
end Go.Proofs.YtomfpjgcficlgaaGreat
