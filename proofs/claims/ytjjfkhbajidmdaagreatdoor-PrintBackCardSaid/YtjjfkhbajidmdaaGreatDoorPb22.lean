/- Parts of this proof, one behind the other: PrsR. -/
import Derived.Test.YtjjfkhbajidmdaaGreatDoorPb21
import Derived.Test.YtjjfkhbajidmdaaGreatDoorPb17
import Derived.Test.YtjjfkhbajidmdaaGreatDoorPb6
set_option maxRecDepth 1000000
set_option maxHeartbeats 40000000
namespace Go.Proofs.YtjjfkhbajidmdaaGreatDoor
open Go.RowKit Go.Afx
structure ahl (name src part:ByteArray) (fuel:Int) (params:List Co):Prop where
 kinds:∀ c∈params,1≤c.kind∧c.kind≤3
 f0:1≤fuel
 f1:fuel≤2000
 Qg:name.data.toList.length≤16
 TD:src.data.toList.length≤16
 aaX:part.data.toList.length≤16
 few:params.length≤8
 names:∀ c∈params,c.name.data.toList.length≤16
theorem FT {name src part:ByteArray} {fuel:Int} {params:List Co} (h:rW name src part fuel params=true):ahl name src part fuel params:=by
 unfold rW at h
 simp only[Bool.and_eq_true,decide_eq_true_eq,List.all_eq_true] at h
 obtain⟨⟨⟨⟨⟨⟨h1,h2⟩,h3⟩,h4⟩,_⟩,h5⟩,h6⟩:=h
 have hk:∀ c∈params,1≤c.kind∧c.kind≤3:=fun c hc=>by
  have:=h1 c hc
  unfold FP at this
  simp only[Bool.and_eq_true,decide_eq_true_eq] at this
  exact this
 rw[kV,List.all_eq_true] at h4
 have hn:∀ c∈params,c.name.data.toList.length≤16:=fun c hc=>iw (h4 c.name (List.mem_map.2 ⟨c,hc,rfl⟩))
 have hsp:src.data.toList.length≤16∧part.data.toList.length≤16:=by
  cases hs:noS src
  ·rw[hs] at h6
   simp only[Bool.false_eq_true,if_false,Bool.and_eq_true] at h6
   exact⟨iw h6.1.1,Ij h6.2⟩
  ·rw[hs] at h6
   simp only[if_true,Bool.or_eq_true,List.any_eq_true,decide_eq_true_eq] at h6
   refine⟨Ij hs,?_⟩
   rcases h6 with h6|⟨x,hx,rfl⟩
   ·exact Ij h6
   ·obtain⟨c,hc,rfl⟩:=List.mem_map.1 hx
    exact hn c hc
 exact⟨hk,h5.1,h5.2,iw h2,hsp.1,hsp.2,h3,hn⟩
theorem TY {params:List Co} (hf:params.length≤8) (hn:∀ c∈params,c.name.data.toList.length≤16):(aQ (params.map dM)).length≤200:=by
 refine Nat.le_trans (EJ _) ?_
 have:∀ l:List Co,(∀ c∈l,c.name.data.toList.length≤16)→((l.map dM).map fun x=>x.length+2).sum≤25*l.length:=by
  intro l
  induction l with
  | nil=>intro _;simp
  | cons a r ih =>
   intro h
   have h1:=h a (by simp)
   have h2:=aaT a.kind
   have h3:=ih fun c hc=>h c (by simp[hc])
   simp only[List.map_cons,List.sum_cons,dM,List.length_append,List.length_cons,List.length_nil] at h3 ⊢
   omega
 have:=this params hn
 omega
theorem aaY {F:Nat→Prop} {w:World} {d:Nat} {p:Pr} {row:List Value} (h:lH F d w row p) (hd:d≤900) (hr:cZ d p=true):(oK d p).length≤900000000:=by
 unfold cZ zM at hr
 simp only[Bool.and_eq_true,List.all_eq_true] at hr
 obtain⟨⟨h1,h2⟩,h3⟩:=hr
 have hg:=FT h1
 have hc:=(WZ hd h2).1
 obtain⟨_,_,_,hfu,Ap,np,cp,Ab,nb,cb,_,_,hxb⟩:=h
 have hxb:aP F d w Ab nb cb p.body:=hxb
 have hb:=I4 (f:=dD d) (k:=0) (K:=d+1) (C:=600+8*(d+1)) (g:=lJ d) (l:=p.body) (by omega) (fun x hx=>by
  obtain⟨r,hr⟩:=Dy hxb x hx
  exact aaM d x r 1 (d+1) hr (h3 x hx) (by omega))
 have hcp:(p.body.map (lJ d)).sum≤300:=hc
 have hm:(600+8*(d+1))*(p.body.map (lJ d)).sum≤10000*300:=Nat.mul_le_mul (by omega) hcp
 have hp:=TY hg.few hg.names
 have hf:=IK hfu
 have n1:=hg.Qg
 have n2:=hg.TD
 have n3:=hg.aaX
 unfold oK
 split<;>split<;>split<;>simp only[List.length_append,List.length_cons,List.length_nil]<;>omega
theorem ad4 (d:Nat) (p:Pr):oK d p≠[]:=by unfold oK;simp
theorem aaZ (F:Nat→Prop) (d:Nat) (p:Pr) (row:List Value) (g:Nat) (t:List UInt8) (br:Bool) (w:World) (h:lH F d w row p) (hr:cZ d p=true) (hd:d≤900) (hF:∀ k,F k→k<g) (hwt:bz g t br w) (hm:dZ w) (hg:0<g) (hlen:t.length+(oK d p).length≤1000000000) :
  Calls Tryz.prog 18 #[.pointer (some ⟨g,0,none⟩),.agg row.toArray] w fun e' w'=>e'=.returned (.tuple #[])∧bz g (t++oK d p) (br||nlP d p) w'∧Wrote g w w':=by
 have hr2:=hr
 unfold cZ zM at hr2
 simp only[Bool.and_eq_true,List.all_eq_true] at hr2
 obtain⟨⟨h1,_⟩,h3⟩:=hr2
 have hG:=FT h1
 obtain⟨_,_,_,_,Ap,np,cp,Ab,nb,cb,rfl,hpl,hbl⟩:=h
 exact Xf F p.name p.src p.part p.fuel p.params Ap Ab np cp nb cb _ _ g t br w hwt hpl hG.kinds hF (by have:=hG.f0;omega) (by have:=hG.f1;omega) (zO (k:=0) (aaS d F) hbl h3 hF hm hg (by omega)) hlen
theorem Xh (F:Nat→Prop) (d:Nat) (p:Pr) (row:List Value) (x g:Nat) (t:List UInt8) (br:Bool) (w:World) (hx:lH F d w row p) (hr:cZ d p=true) (hd:d≤900) (hF:∀ k,F k→k<g) (hk:af w x 30 row.toArray) (h:bz g t br w) (hm:dZ w) (hg:0<g) (hlen:t.length+(oK d p).length≤1000000000) :
  Calls Tryz.prog 17 #[.pointer (some ⟨g,0,none⟩),.pointer (some ⟨x,0,none⟩)] w fun e' w'=>e'=.returned (.tuple #[])∧bz g (t++oK d p) (br||nlP d p) w'∧Wrote g w w':=by
 have Hc:=ae (aaZ F d p row g t br w hx hr hd hF h hm hg hlen)
 obtain⟨_,_,_,_,Ap,np,cp,Ab,nb,cb,rfl,_,_⟩:=hx
 obtain⟨x0,x1,x2,x3,x4,x5,xl⟩:=lX hk
 clear hr hd hF hk h hm hg hlen
 go_enter Tryz.func17,Tryz.ntmps17
 go_wp2_with (go_at_call 18;refine Hc.out.mono ?_)
 rintro e' w2 ⟨rfl,h1,h2⟩
 have H:=ae (And.intro h1 h2)
 clear h1 h2
 go_wp2
 go_end0
 exact⟨rfl,H.out.1,H.out.2⟩
theorem MJ (x:Nat) (t:List UInt8) (br:Bool) (w:World) (ht:t≠[])
  (hc:∀ W,Below w.heap.size w W→bz w.heap.size [] false W→Calls Tryz.prog 17 #[.pointer (some ⟨w.heap.size,0,none⟩),.pointer (some ⟨x,0,none⟩)] W fun e' w'=>e'=.returned (.tuple #[])∧bz w.heap.size t br w'∧Wrote w.heap.size W w') :
  Calls Tryz.prog 15 #[.bool true,.func (.func 17) #[] #[.pointer (some ⟨x,0,none⟩)]] w fun e w'=>e=.returned (.tuple #[.string ⟨(gW br t).1.toArray⟩,.int .i64 (gW br t).2])∧Below w.heap.size w w':=by
 have hb1:Below w.heap.size w (w.alloc (.cells #[.pointer none,.slice none 0 0,.bool false] 83)):=(Below.refl _ _).alloc (Nat.le_refl _) _
 have Hc:=ae (hc _ hb1 (aaG w))
 have Hb1:=ae hb1
 have Ht:=ae ht
 clear hc hb1 ht
 go_enter Tryz.func15,Tryz.ntmps15
 go_wp2_with (go_at_call 17;refine Hc.out.mono ?_)
 rintro e' w2 ⟨rfl,h2,hr2⟩
 obtain⟨b1,_,b3⟩:=h2.brk
 have gm:=ae (And.intro h2 (Hb1.out.trans hr2.1))
 have VD:=ae (len_any _ _ _ _ h2)
 have J6:=ae (IX _ _ _ _ h2 Ht.out)
 clear h2 hr2
 cases br
 ·rcases Classical.em (8000<t.length) with hl|hl
  ·have hd:decide ((8000:Int)<(t.length:Int))=true:=by simp;omega
   have e:gW false t=([],5):=by unfold gW;rw[if_neg (by decide),if_pos hl]
   have He:=ae e
   clear hl e
   go_wp2_with (go_at_call 30;refine VD.out.mono ?_;rintro e' w3 ⟨rfl,rfl⟩)
   go_ret2
   rw[He.out]
   exact⟨rfl,gm.out.2⟩
  ·have hd:decide ((8000:Int)<(t.length:Int))=false:=by simp;omega
   have e:gW false t=(t,0):=by unfold gW;rw[if_neg (by decide),if_neg hl]
   have He:=ae e
   clear hl e
   go_wp2_with (first|(go_at_call 30;refine VD.out.mono ?_;rintro e' w3 ⟨rfl,rfl⟩)|(go_at_call 31;refine J6.out.mono ?_;rintro e' w4 ⟨rfl,hb4⟩))
   go_ret2
   rw[He.out]
   exact⟨rfl,gm.out.2.trans hb4⟩
 ·have e:gW true t=([],1):=by unfold gW;rw[if_pos rfl]
  have He:=ae e
  clear e
  go_wp2
  go_ret2
  rw[He.out]
  exact⟨rfl,gm.out.2⟩
def zn (d:Nat) (p:Pr):List UInt8×Int:=if cZ d p then gW (nlP d p) (oK d p) else ([],1)
theorem J9 (F:Nat→Prop) (d:Nat) (p:Pr) (row:List Value) (w:World) (h:lH F d w row p) (hd:d≤900) (hbig:p.params.length≤1000000) (hF:∀ k,F k→k<w.heap.size) (hm:dZ w) :
  Calls Tryz.prog 6 #[.agg row.toArray] w fun x w'=>x=.returned (.tuple #[.string ⟨(zn d p).1.toArray⟩,.int .i64 (zn d p).2])∧Below w.heap.size w w':=by
 obtain⟨w1,Hw1⟩:∃ w1,Hid (w1=w.alloc (.cells row.toArray 30)):=⟨_,rfl⟩
 have hb1:Below w.heap.size w w1:=by rw[Hw1.out];exact(Below.refl _ _).alloc (Nat.le_refl _) _
 have hk1:af w1 w.heap.size 30 row.toArray:=by rw[Hw1.out];exact af.laid _ _ _
 have Hri:=ae (KO F d p row w1 (h.below hb1) (by omega) hbig)
 have Tv:=ae (fun W (hW:Below w1.heap.size w1 W) (hr:cZ d p=true)=>MJ w.heap.size (oK d p) (nlP d p) W (ad4 d p) (fun W2 h2 hwt=>by
  have hall:Below w.heap.size w W2:=hb1.trans ((hW.mono hb1.size).trans (h2.mono (Nat.le_trans hb1.size hW.size)))
  have hk:=(hk1.ag (hW.block _ hk1.lt)).ag (h2.block _ (Nat.lt_of_lt_of_le hk1.lt hW.size))
  have hmg:=Nat.lt_of_lt_of_le hm.lt (Nat.le_trans hb1.size hW.size)
  have hl:=aaY h hd hr
  have hres:=Xh F d p row w.heap.size W.heap.size [] false W2 (h.below hall) hr hd (fun k hk=>Nat.lt_of_lt_of_le (hF k hk) (Nat.le_trans hb1.size hW.size)) hk hwt (hm.below hm.lt hall) hmg (by simp only[List.length_nil];omega)
  rw[List.nil_append,Bool.false_or] at hres
  exact hres))
 have Hb1:=ae hb1
 have Hex:=ae (show zn d p=if cZ d p then gW (nlP d p) (oK d p) else ([],1) from rfl)
 generalize zn d p=fin at *
 obtain⟨_,_,_,_,Ap,np,cp,Ab,nb,cb,rfl,_,_⟩:=h
 obtain⟨x0,x1,x2,x3,x4,x5,xl⟩:=lX hk1
 have hmf:∀ (fn:Fn) (first cap:Array Value) (w:World),(Instr.makeFunc fn first cap).run Tryz.prog w=.ok (.func fn first cap) w:=fun _ _ _ _=>rfl
 clear hb1 hk1 hF hm hd hbig
 generalize cZ d p=ri at *
 cases ri
 ·clear Tv
  go_enter Tryz.func6,Tryz.ntmps6
  go_upto_region 1 with (fail)
  rw[← Hw1.out]
  go_wp2_with (first|(go_at_call 16;refine Hri.out.mono ?_;rintro x w2 ⟨rfl,hb2⟩)|(go_at_call 15;refine(IY _ _).mono ?_;rintro x w3 ⟨rfl,rfl⟩))
  go_ret2
  rw[Hex.out]
  exact⟨rfl,Hb1.out.trans (hb2.mono Hb1.out.size)⟩
 ·have Hy:=ae (fun W hW=>Tv.out W hW rfl)
  clear Tv
  go_enter Tryz.func6,Tryz.ntmps6
  go_upto_region 1 with (fail)
  rw[← Hw1.out]
  go_wp2_with (first|(go_at_call 16;refine Hri.out.mono ?_;rintro x w2 ⟨rfl,hb2⟩)|(go_at_call 15;refine(Hy.out _ hb2).mono ?_;rintro x w3 ⟨rfl,hb3⟩))
  go_ret2
  rw[Hex.out]
  exact⟨rfl,Hb1.out.trans ((hb2.mono Hb1.out.size).trans (hb3.mono (Nat.le_trans Hb1.out.size hb2.size)))⟩
end Go.Proofs.YtjjfkhbajidmdaaGreatDoor
