/- Parts of this proof, one behind the other: SynM, SynN, SynO, SynS, SynT0, SynT, SynU, SynV, SynW, SynY. -/
import Derived.Test.YtmfcmpnlipnopaaGreatTw22
import Derived.Maps.Own
import Derived.Maps.Views
import Derived.Test.YtmfcmpnlipnopaaGreatTw18
import Derived.Deep.RegionLaw
import Derived.Deep.CutRange
import Derived.Test.YtmfcmpnlipnopaaGreatShelfZ
import Derived.Maps.OwnSet
set_option maxRecDepth 1000000
set_option maxHeartbeats 40000000
namespace Go.Proofs.YtmfcmpnlipnopaaGreat
open Go.RowKit Go.Afx
def CoRow (r:List Value) (c:Co):Prop:=r=[.string c.name,.int .i64 c.kind]∧okS c.name∧okI c.kind
def PrAt (F:Nat→Prop) (d:Nat) (w:World) (r:List Value) (p:Pr):Prop:=okS p.name∧okS p.src∧okS p.part∧okI p.fuel ∧
 ∃ Ap np cp Ab nb cb,r=[.string p.name,.string p.src,.string p.part,.int .i64 p.fuel,.slice Ap np cp,.slice Ab nb cb]∧LsAt F w 2 CoRow Ap np cp p.params∧StsAt F d w Ab nb cb p.body
theorem PrAt.conv {F F':Nat→Prop} (hF:∀ k,F k→F' k) {w w':World} (hk:Kept F w w') {d d':Nat} (hd:d≤d') {r:List Value} {p:Pr} (h:PrAt F d w r p):PrAt F' d' w' r p:=by
 obtain⟨h1,h2,h3,h4,Ap,np,cp,Ab,nb,cb,hr,k1,k2⟩:=h
 exact⟨h1,h2,h3,h4,Ap,np,cp,Ab,nb,cb,hr,k1.conv hk (fun _ _ _ h=>hF _ h) (fun _ _ _ h=>h),StsAt.conv hF hk hd k2⟩
theorem PrAt.below {F:Nat→Prop} {w w':World} {d:Nat} {r:List Value} {p:Pr} (h:PrAt F d w r p) (hb:Below w.heap.size w w'):PrAt F d w' r p:=PrAt.conv (fun _ h=>h) (Kept.of_below hb) (Nat.le_refl _) h
theorem coAt {F:Nat→Prop} {w:World} {A:Option Addr} {n c:Nat} {xs:List Co} (h:LsAt F w 2 CoRow A n c xs) {k:Nat} (hk:k<n) :
  ∃ b o x,A=some ⟨b,o,none⟩∧b<w.heap.size∧xs[k]?=some x∧okS x.name∧okI x.kind∧w.cell? ⟨b,o+k*2,none⟩=some (.string x.name)∧w.cell? ⟨b,o+k*2+1,none⟩=some (.int .i64 x.kind):=by
 obtain⟨b,o,r,x,hA,hb,_,hx,hl,⟨rfl,h1,h2⟩,hc⟩:=h.get hk
 exact⟨b,o,x,hA,hb,hx,h1,h2,by simpa using hc 0 _ rfl,hc 1 _ rfl⟩
theorem prBox {w:World} {g:Nat} {T:TypeId} {fuel:Int} {name src part:ByteArray} {Ap Ab:Option Addr} {np cp nb cb:Nat} (h:IsBlk w g T #[.string name,.string src,.string part,.int .i64 fuel,.slice Ap np cp,.slice Ab nb cb]) :
  w.cell? ⟨g,0,none⟩=some (.string name)∧w.cell? ⟨g,1,none⟩=some (.string src)∧w.cell? ⟨g,2,none⟩=some (.string part)∧w.cell? ⟨g,3,none⟩=some (.int .i64 fuel)∧w.cell? ⟨g,4,none⟩=some (.slice Ap np cp)∧w.cell? ⟨g,5,none⟩=some (.slice Ab nb cb)∧g<w.heap.size:=by
 have h0:=h.cell 0;have h1:=h.cell 1;have h2:=h.cell 2;have h3:=h.cell 3;have h4:=h.cell 4;have h5:=h.cell 5
 simp at h0 h1 h2 h3 h4 h5
 exact⟨h0,h1,h2,h3,h4,h5,h.lt⟩
def srow (s:ByteArray):List Value:=[.string s]
theorem srow_len:∀ {xs:List ByteArray} (r:List Value),r∈xs.map srow→r.length=1:=by
 intro xs r hr;obtain⟨p,_,rfl⟩:=List.mem_map.1 hr;rfl
theorem srow_one:∀ {xs:List ByteArray} (r:List Value),r∈xs.map srow→∀ u∈r,u.oneCell'=true:=by
 intro xs r hr u hu
 obtain⟨p,_,rfl⟩:=List.mem_map.1 hr
 simp only[srow,List.mem_singleton] at hu
 subst hu;rfl
theorem LsAt.of_own {w:World} {base:Nat} {T:TypeId} {A:Option Addr} {n c:Nat} {xs:List ByteArray} (h:w.ownsRow base T 1 (.slice A n c) n (xs.map srow).flatten) (hn:xs.length=n) (hok:∀ x∈xs,okS x):LsAt (fun _=>True) w 1 SRow A n c xs :=
 ⟨xs.map srow,RowsAt.of_own h srow_len (by simpa using hn),fun _ _ _=>trivial,by simp,fun k r x hr hx=>by
  rw[List.getElem?_map,hx] at hr
  simp at hr
  subst hr
  exact⟨rfl,rfl,hok x (List.mem_of_getElem? hx)⟩⟩
theorem heads_bad {name src part:ByteArray} {fuel:Int} {params:List Co} (h:∃ c∈params,kindB c=false):headsR name src part fuel params=false:=by
 have:params.all kindB=false:=by
  rw[List.all_eq_false]
  obtain⟨c,hc,hk⟩:=h
  exact⟨c,hc,by simp[hk]⟩
 simp[headsR,this]
theorem heads_any (F:Nat→Prop) (name src part:ByteArray) (fuel:Int) (Ap Ab:Option Addr) (np cp nb cb:Nat) (params:List Co) (w:World) (hp:LsAt F w 2 CoRow Ap np cp params) (okn:okS name) (oks:okS src) (hbig:np≤1000000) :
  Calls Tryz.prog 55 #[.agg #[.string name,.string src,.string part,.int .i64 fuel,.slice Ap np cp,.slice Ab nb cb]] w fun x w'=>x=.returned (.bool (headsR name src part fuel params))∧Below w.heap.size w w':=by
 have hlen:=hp.len
 obtain⟨w1,Hw1⟩:∃ w1,Hid (w1=w.alloc (.cells #[.string name,.string src,.string part,.int .i64 fuel,.slice Ap np cp,.slice Ab nb cb] 36)):=⟨_,rfl⟩
 have hx1:IsBlk w1 w.heap.size 36 #[.string name,.string src,.string part,.int .i64 fuel,.slice Ap np cp,.slice Ab nb cb]:=by rw[Hw1.out];exact IsBlk.laid _ _ _
 have hb1:Below w.heap.size w w1:=by rw[Hw1.out];exact(Below.refl _ _).alloc (Nat.le_refl _) _
 have hz1:w1.heap.size=w.heap.size+1:=by rw[Hw1.out];simp
 have Hx1:=Lhd hx1
 have Hz1:=Lhd hz1
 have hx4:=hx1.cell 4
 simp at hx4
 have hxl:=hx1.lt
 clear hz1 hx1
 go_enter Tryz.func55,Tryz.ntmps55
 go_upto_region 2 with (fail)
 rw[← Hw1.out]
 go_wp2_with (fail)
 have Hlen:=Lhd hlen
 clear hlen
 go_loopw [3,9] (fun v i wr=>∃ (k:Nat) (A2:Option Addr) (c2:Nat),k≤np∧i=.int .i64 k∧v=.slice A2 k c2∧(∀ y∈params.take k,kindB y=true)∧wr.ownsRow w1.heap.size 9 1 (.slice A2 k c2) k (((params.take k).map Co.name).map srow).flatten∧Below w1.heap.size w1 wr) (fun _ i _=>np-(intOf i).toNat)
 case atStart=>exact⟨0,none,0,Nat.zero_le _,rfl,rfl,by simp,World.ownsRow_nil _ _ _ _,Below.refl _ _⟩
 case round =>
  obtain⟨k,A2,c2,hk,rfl,rfl,hall,hown,hb⟩:=hrel
  have Hall:=Lhd hall;clear hall
  have hzw:=hb.size
  have hb0:=hb1.trans (hb.mono hb1.size)
  by_cases hlt:k<np
  ·obtain⟨b,o,x,rfl,hbl,hx,hxn,hxk,hc0,hc1⟩:=coAt (hp.below hb0) hlt
   have Hx:=Lhd hx
   have hq:=fun W=>within_any x.kind 1 3 W
   obtain⟨q,Hq⟩:∃ q,Hid (kindB x=q):=⟨_,rfl⟩
   have hq2:(decide (1≤x.kind)&&decide (x.kind≤3))=q:=Hq.out
   rw[hq2] at hq
   have HQ:=Lhd hq
   clear hq hq2 hx
   cases q
   ·go_wp2_with (go_at_call 84;refine(HQ.out _).mono ?_;rintro y w' ⟨rfl,rfl⟩)
    go_ret
    exact⟨ret_bool (heads_bad ⟨x,List.mem_of_getElem? Hx.out,Hq.out⟩).symm,hb0.alloc hb0.size _⟩
   ·have Hnx:=Lhd (mem_take_succ Hx.out Hall.out Hq.out)
    have hown2:((wr.alloc (.cells #[.string x.name,.int .i64 x.kind] 71)).alloc (.cells #[.string x.name] 9)).ownsRow w1.heap.size 9 1 (.slice A2 k c2) k (((params.take k).map Co.name).map srow).flatten:=(hown.alloc _).alloc _
    have hnew:RowsAt ((wr.alloc (.cells #[.string x.name,.int .i64 x.kind] 71)).alloc (.cells #[.string x.name] 9)) 1 (some ⟨wr.heap.size+1,0,none⟩) 1 1 ([x.name].map srow):=RowsAt.lit' _ _ 1 (by simp) rfl srow_len rfl (by unfold maxLen;omega)
    have hb2:Below wr.heap.size wr ((wr.alloc (.cells #[.string x.name,.int .i64 x.kind] 71)).alloc (.cells #[.string x.name] 9)):=((Below.refl _ _).alloc (Nat.le_refl _) _).alloc (by simp) _
    go_wp2_with (first|(go_at_call 84;refine(HQ.out _).mono ?_;rintro y w' ⟨rfl,rfl⟩)|(at_builtin;refine wpList_app rfl rfl tyStr rfl hown2 rfl hnew srow_len srow_one ?_ ?_ ?_ ?_;(unfold maxLen;omega);omega;(simp;omega);intro A3 c3 w3 hown3 hbut3 hf3))
    go_roundw
    case rel =>
     rw[← List.map_append] at hown3
     refine⟨k+1,A3,c3,by omega,by go_num,rfl,Hnx.out,by rw[take_succ_of' Hx.out,List.map_append];exact hown3,?_⟩
     exact hb.trans ((hb2.mono hzw).trans (hbut3.below' (by simp;omega) (fun i hi=>by
      cases A2 with
      | none=>cases hi
      | some a2=>have h:=hown2.lt a2.block rfl;simp at hi;omega)))
    case measure=>simp[intOf];omega
  ·obtain rfl:k=np:=by omega
   have hpar:params.take k=params:=List.take_of_length_le (by rw[Hlen.out];omega)
   have hallp:params.all kindB=true:=by rw[List.all_eq_true];have h:=Hall.out;rw[hpar] at h;exact h
   rw[hpar] at hown
   have hokn:∀ y∈params.map Co.name,okS y:=by
    intro y hy
    obtain⟨c,hc,rfl⟩:=List.mem_map.1 hy
    obtain⟨i,hi⟩:=List.mem_iff_getElem?.1 hc
    have hik:i<k:=by have:=(List.getElem?_eq_some_iff.1 hi).1;rw[Hlen.out] at this;exact this
    obtain⟨b,o,x,_,_,hx,hxn,_⟩:=coAt (hp.below hb0) hik
    rw[hi] at hx
    cases hx
    exact hxn
   have hnl:(params.map Co.name).length=k:=by rw[List.length_map,Hlen.out]
   have HN:=Lhd (fun W (hW:Below wr.heap.size wr W)=>LsAt.of_own (own_below hown hW) hnl hokn)
   have hfin:headsR name src part fuel params=(freeB name&&decide (k≤8)&&freesB (params.map Co.name)&&decide (params.map Co.name).Nodup&&(decide (1≤fuel)&&decide (fuel≤2000)) &&
     (if noS src then noS part||(params.map Co.name).any fun x=>decide (x=part) else freeB src&&decide (k=0)&&noS part)):=by
    rw[headsR,hallp,Hlen.out,Bool.true_and]
   have hcon:((params.map Co.name).any fun y=>part.toList==y.toList)=(params.map Co.name).any fun x=>decide (x=part):=by
    congr 1;funext x;rw[bs_eq,decide_eq_decide];exact eq_comm
   have HF1:=Lhd (fun (W:World) A m c (h:LsAt (fun _=>True) W 1 SRow A m c [name])=>free_any _ A m c _ W h)
   have HF2:=Lhd (fun (W:World) (hW:Below wr.heap.size wr W)=>free_any _ _ _ _ _ W (HN.out W hW))
   have HF3:=Lhd (fun (W:World) (hW:Below wr.heap.size wr W)=>unlike_any _ _ _ _ _ W (HN.out W hW) hbig)
   have HF4:=Lhd (fun (W:World) A m c (h:LsAt (fun _=>True) W 1 SRow A m c [src])=>free_any _ A m c _ W h)
   have HF5:=Lhd (fun (W:World) (hW:Below wr.heap.size wr W)=>containsS_any _ _ _ _ _ part W (HN.out W hW))
   have HW:=Lhd (fun W=>within_any fuel 1 2000 W)
   rw[freesB_one] at HF1 HF4
   rw[hcon] at HF5
   obtain⟨q1,Hq1⟩:∃ q,Hid (freeB name=q):=⟨_,rfl⟩
   obtain⟨q2,Hq2⟩:∃ q,Hid (freesB (params.map Co.name)=q):=⟨_,rfl⟩
   obtain⟨q3,Hq3⟩:∃ q,Hid (decide (params.map Co.name).Nodup=q):=⟨_,rfl⟩
   obtain⟨q4,Hq4⟩:∃ q,Hid (freeB src=q):=⟨_,rfl⟩
   obtain⟨q5,Hq5⟩:∃ q,Hid (((params.map Co.name).any fun x=>decide (x=part))=q):=⟨_,rfl⟩
   obtain⟨q6,Hq6⟩:∃ q,Hid ((decide (1≤fuel)&&decide (fuel≤2000))=q):=⟨_,rfl⟩
   rw[Hq1.out] at HF1 hfin
   rw[Hq2.out] at HF2 hfin
   rw[Hq3.out] at HF3 hfin
   rw[Hq4.out] at HF4 hfin
   rw[Hq5.out] at HF5 hfin
   rw[Hq6.out] at HW hfin
   have Hfin:=Lhd hfin
   have Hp:=Lhd (fun W (hW:Below wr.heap.size wr W)=>prBox (Hx1.out.as_was ((hb.trans (hW.mono hzw)).block _ hxl)))
   have HB:=Lhd (fun W (hW:Below wr.heap.size wr W)=>hb0.trans (hW.mono hb0.size))
   have hR:Below wr.heap.size wr wr:=Below.refl _ _
   have hnk:k≤9223372036854775807:=by omega
   obtain⟨x0,x1,x2,x3,x4,x5,xl⟩:=Hp.out _ hR
   clear hfin hcon hnl hokn hallp hpar hp hown Hlen
   cases q1
   ·go_wp2_with (first|(go_at_call 85;with_reducible refine(HF1.out _ _ _ _ (strs_one 9 name rfl okn)).mono ?_;rintro x w2 ⟨rfl,hb2⟩;replace hR:=(hR.alloc hR.size _).trans (hb2.mono (by first|(simp;done)|(have:=hR.size;simp;omega)));obtain⟨x0,x1,x2,x3,x4,x5,xl⟩:=Hp.out _ hR)|(go_at_call 85;with_reducible refine(HF4.out _ _ _ _ (strs_one 9 src rfl oks)).mono ?_;rintro x w3 ⟨rfl,hb3⟩;replace hR:=(hR.alloc hR.size _).trans (hb3.mono (by first|(simp;done)|(have:=hR.size;simp;omega)));obtain⟨x0,x1,x2,x3,x4,x5,xl⟩:=Hp.out _ hR)|(go_at_call 85;with_reducible refine(HF2.out _ hR).mono ?_;rintro x w4 ⟨rfl,hb4⟩;replace hR:=hR.trans (hb4.mono hR.size);obtain⟨x0,x1,x2,x3,x4,x5,xl⟩:=Hp.out _ hR)|(go_at_call 86;with_reducible refine(HF3.out _ hR).mono ?_;rintro x w5 ⟨rfl,hb5⟩;replace hR:=hR.trans (hb5.mono hR.size);obtain⟨x0,x1,x2,x3,x4,x5,xl⟩:=Hp.out _ hR)|(go_at_call 84;with_reducible refine(HW.out _).mono ?_;rintro x w' ⟨rfl,rfl⟩)|(go_at_call 87;with_reducible refine(HF5.out _ hR).mono ?_;rintro x w' ⟨rfl,rfl⟩))
    go_ret
    exact⟨ret_bool (by rw[Hfin.out];simp),HB.out _ hR⟩
   by_cases h8:k≤8
   rotate_left
   ·have h8':(8:Int)<(k:Int):=by omega
    go_wp2_with (first|(go_at_call 85;with_reducible refine(HF1.out _ _ _ _ (strs_one 9 name rfl okn)).mono ?_;rintro x w2 ⟨rfl,hb2⟩;replace hR:=(hR.alloc hR.size _).trans (hb2.mono (by first|(simp;done)|(have:=hR.size;simp;omega)));obtain⟨x0,x1,x2,x3,x4,x5,xl⟩:=Hp.out _ hR)|(go_at_call 85;with_reducible refine(HF4.out _ _ _ _ (strs_one 9 src rfl oks)).mono ?_;rintro x w3 ⟨rfl,hb3⟩;replace hR:=(hR.alloc hR.size _).trans (hb3.mono (by first|(simp;done)|(have:=hR.size;simp;omega)));obtain⟨x0,x1,x2,x3,x4,x5,xl⟩:=Hp.out _ hR)|(go_at_call 85;with_reducible refine(HF2.out _ hR).mono ?_;rintro x w4 ⟨rfl,hb4⟩;replace hR:=hR.trans (hb4.mono hR.size);obtain⟨x0,x1,x2,x3,x4,x5,xl⟩:=Hp.out _ hR)|(go_at_call 86;with_reducible refine(HF3.out _ hR).mono ?_;rintro x w5 ⟨rfl,hb5⟩;replace hR:=hR.trans (hb5.mono hR.size);obtain⟨x0,x1,x2,x3,x4,x5,xl⟩:=Hp.out _ hR)|(go_at_call 84;with_reducible refine(HW.out _).mono ?_;rintro x w' ⟨rfl,rfl⟩)|(go_at_call 87;with_reducible refine(HF5.out _ hR).mono ?_;rintro x w' ⟨rfl,rfl⟩))
    go_ret
    exact⟨ret_bool (by rw[Hfin.out];simp[h8]),HB.out _ hR⟩
   have h8':(k:Int)≤8:=by omega
   cases q2
   ·go_wp2_with (first|(go_at_call 85;with_reducible refine(HF1.out _ _ _ _ (strs_one 9 name rfl okn)).mono ?_;rintro x w2 ⟨rfl,hb2⟩;replace hR:=(hR.alloc hR.size _).trans (hb2.mono (by first|(simp;done)|(have:=hR.size;simp;omega)));obtain⟨x0,x1,x2,x3,x4,x5,xl⟩:=Hp.out _ hR)|(go_at_call 85;with_reducible refine(HF4.out _ _ _ _ (strs_one 9 src rfl oks)).mono ?_;rintro x w3 ⟨rfl,hb3⟩;replace hR:=(hR.alloc hR.size _).trans (hb3.mono (by first|(simp;done)|(have:=hR.size;simp;omega)));obtain⟨x0,x1,x2,x3,x4,x5,xl⟩:=Hp.out _ hR)|(go_at_call 85;with_reducible refine(HF2.out _ hR).mono ?_;rintro x w4 ⟨rfl,hb4⟩;replace hR:=hR.trans (hb4.mono hR.size);obtain⟨x0,x1,x2,x3,x4,x5,xl⟩:=Hp.out _ hR)|(go_at_call 86;with_reducible refine(HF3.out _ hR).mono ?_;rintro x w5 ⟨rfl,hb5⟩;replace hR:=hR.trans (hb5.mono hR.size);obtain⟨x0,x1,x2,x3,x4,x5,xl⟩:=Hp.out _ hR)|(go_at_call 84;with_reducible refine(HW.out _).mono ?_;rintro x w' ⟨rfl,rfl⟩)|(go_at_call 87;with_reducible refine(HF5.out _ hR).mono ?_;rintro x w' ⟨rfl,rfl⟩))
    go_ret
    exact⟨ret_bool (by rw[Hfin.out];simp),HB.out _ hR⟩
   cases q3
   ·go_wp2_with (first|(go_at_call 85;with_reducible refine(HF1.out _ _ _ _ (strs_one 9 name rfl okn)).mono ?_;rintro x w2 ⟨rfl,hb2⟩;replace hR:=(hR.alloc hR.size _).trans (hb2.mono (by first|(simp;done)|(have:=hR.size;simp;omega)));obtain⟨x0,x1,x2,x3,x4,x5,xl⟩:=Hp.out _ hR)|(go_at_call 85;with_reducible refine(HF4.out _ _ _ _ (strs_one 9 src rfl oks)).mono ?_;rintro x w3 ⟨rfl,hb3⟩;replace hR:=(hR.alloc hR.size _).trans (hb3.mono (by first|(simp;done)|(have:=hR.size;simp;omega)));obtain⟨x0,x1,x2,x3,x4,x5,xl⟩:=Hp.out _ hR)|(go_at_call 85;with_reducible refine(HF2.out _ hR).mono ?_;rintro x w4 ⟨rfl,hb4⟩;replace hR:=hR.trans (hb4.mono hR.size);obtain⟨x0,x1,x2,x3,x4,x5,xl⟩:=Hp.out _ hR)|(go_at_call 86;with_reducible refine(HF3.out _ hR).mono ?_;rintro x w5 ⟨rfl,hb5⟩;replace hR:=hR.trans (hb5.mono hR.size);obtain⟨x0,x1,x2,x3,x4,x5,xl⟩:=Hp.out _ hR)|(go_at_call 84;with_reducible refine(HW.out _).mono ?_;rintro x w' ⟨rfl,rfl⟩)|(go_at_call 87;with_reducible refine(HF5.out _ hR).mono ?_;rintro x w' ⟨rfl,rfl⟩))
    go_ret
    exact⟨ret_bool (by rw[Hfin.out];simp),HB.out _ hR⟩
   cases q6
   ·go_wp2_with (first|(go_at_call 85;with_reducible refine(HF1.out _ _ _ _ (strs_one 9 name rfl okn)).mono ?_;rintro x w2 ⟨rfl,hb2⟩;replace hR:=(hR.alloc hR.size _).trans (hb2.mono (by first|(simp;done)|(have:=hR.size;simp;omega)));obtain⟨x0,x1,x2,x3,x4,x5,xl⟩:=Hp.out _ hR)|(go_at_call 85;with_reducible refine(HF4.out _ _ _ _ (strs_one 9 src rfl oks)).mono ?_;rintro x w3 ⟨rfl,hb3⟩;replace hR:=(hR.alloc hR.size _).trans (hb3.mono (by first|(simp;done)|(have:=hR.size;simp;omega)));obtain⟨x0,x1,x2,x3,x4,x5,xl⟩:=Hp.out _ hR)|(go_at_call 85;with_reducible refine(HF2.out _ hR).mono ?_;rintro x w4 ⟨rfl,hb4⟩;replace hR:=hR.trans (hb4.mono hR.size);obtain⟨x0,x1,x2,x3,x4,x5,xl⟩:=Hp.out _ hR)|(go_at_call 86;with_reducible refine(HF3.out _ hR).mono ?_;rintro x w5 ⟨rfl,hb5⟩;replace hR:=hR.trans (hb5.mono hR.size);obtain⟨x0,x1,x2,x3,x4,x5,xl⟩:=Hp.out _ hR)|(go_at_call 84;with_reducible refine(HW.out _).mono ?_;rintro x w' ⟨rfl,rfl⟩)|(go_at_call 87;with_reducible refine(HF5.out _ hR).mono ?_;rintro x w' ⟨rfl,rfl⟩))
    go_ret
    exact⟨ret_bool (by rw[Hfin.out];simp),HB.out _ hR⟩
   cases hsrc:noS src
   ·have hsrc':=str_some hsrc
    have Hsrc:=Lhd hsrc
    clear hsrc
    cases q4
    ·go_wp2_with (first|(go_at_call 85;with_reducible refine(HF1.out _ _ _ _ (strs_one 9 name rfl okn)).mono ?_;rintro x w2 ⟨rfl,hb2⟩;replace hR:=(hR.alloc hR.size _).trans (hb2.mono (by first|(simp;done)|(have:=hR.size;simp;omega)));obtain⟨x0,x1,x2,x3,x4,x5,xl⟩:=Hp.out _ hR)|(go_at_call 85;with_reducible refine(HF4.out _ _ _ _ (strs_one 9 src rfl oks)).mono ?_;rintro x w3 ⟨rfl,hb3⟩;replace hR:=(hR.alloc hR.size _).trans (hb3.mono (by first|(simp;done)|(have:=hR.size;simp;omega)));obtain⟨x0,x1,x2,x3,x4,x5,xl⟩:=Hp.out _ hR)|(go_at_call 85;with_reducible refine(HF2.out _ hR).mono ?_;rintro x w4 ⟨rfl,hb4⟩;replace hR:=hR.trans (hb4.mono hR.size);obtain⟨x0,x1,x2,x3,x4,x5,xl⟩:=Hp.out _ hR)|(go_at_call 86;with_reducible refine(HF3.out _ hR).mono ?_;rintro x w5 ⟨rfl,hb5⟩;replace hR:=hR.trans (hb5.mono hR.size);obtain⟨x0,x1,x2,x3,x4,x5,xl⟩:=Hp.out _ hR)|(go_at_call 84;with_reducible refine(HW.out _).mono ?_;rintro x w' ⟨rfl,rfl⟩)|(go_at_call 87;with_reducible refine(HF5.out _ hR).mono ?_;rintro x w' ⟨rfl,rfl⟩))
     go_ret
     exact⟨ret_bool (by rw[Hfin.out];simp[Hsrc.out]),HB.out _ hR⟩
    by_cases hk0:k=0
    ·have hk0':((k:Int)==0)=true:=by simp;omega
     have Hk0:=Lhd hk0
     clear hk0
     cases hpt:noS part
     ·have hpt':=str_some hpt
      have Hpt:=Lhd hpt
      clear hpt
      go_wp2_with (first|(go_at_call 85;with_reducible refine(HF1.out _ _ _ _ (strs_one 9 name rfl okn)).mono ?_;rintro x w2 ⟨rfl,hb2⟩;replace hR:=(hR.alloc hR.size _).trans (hb2.mono (by first|(simp;done)|(have:=hR.size;simp;omega)));obtain⟨x0,x1,x2,x3,x4,x5,xl⟩:=Hp.out _ hR)|(go_at_call 85;with_reducible refine(HF4.out _ _ _ _ (strs_one 9 src rfl oks)).mono ?_;rintro x w3 ⟨rfl,hb3⟩;replace hR:=(hR.alloc hR.size _).trans (hb3.mono (by first|(simp;done)|(have:=hR.size;simp;omega)));obtain⟨x0,x1,x2,x3,x4,x5,xl⟩:=Hp.out _ hR)|(go_at_call 85;with_reducible refine(HF2.out _ hR).mono ?_;rintro x w4 ⟨rfl,hb4⟩;replace hR:=hR.trans (hb4.mono hR.size);obtain⟨x0,x1,x2,x3,x4,x5,xl⟩:=Hp.out _ hR)|(go_at_call 86;with_reducible refine(HF3.out _ hR).mono ?_;rintro x w5 ⟨rfl,hb5⟩;replace hR:=hR.trans (hb5.mono hR.size);obtain⟨x0,x1,x2,x3,x4,x5,xl⟩:=Hp.out _ hR)|(go_at_call 84;with_reducible refine(HW.out _).mono ?_;rintro x w' ⟨rfl,rfl⟩)|(go_at_call 87;with_reducible refine(HF5.out _ hR).mono ?_;rintro x w' ⟨rfl,rfl⟩))
      go_ret
      exact⟨ret_bool (by rw[Hfin.out];simp[Hk0.out,Hpt.out,Hsrc.out]),HB.out _ hR⟩
     ·have hpt':=str_empty hpt
      have Hpt:=Lhd hpt
      clear hpt
      go_wp2_with (first|(go_at_call 85;with_reducible refine(HF1.out _ _ _ _ (strs_one 9 name rfl okn)).mono ?_;rintro x w2 ⟨rfl,hb2⟩;replace hR:=(hR.alloc hR.size _).trans (hb2.mono (by first|(simp;done)|(have:=hR.size;simp;omega)));obtain⟨x0,x1,x2,x3,x4,x5,xl⟩:=Hp.out _ hR)|(go_at_call 85;with_reducible refine(HF4.out _ _ _ _ (strs_one 9 src rfl oks)).mono ?_;rintro x w3 ⟨rfl,hb3⟩;replace hR:=(hR.alloc hR.size _).trans (hb3.mono (by first|(simp;done)|(have:=hR.size;simp;omega)));obtain⟨x0,x1,x2,x3,x4,x5,xl⟩:=Hp.out _ hR)|(go_at_call 85;with_reducible refine(HF2.out _ hR).mono ?_;rintro x w4 ⟨rfl,hb4⟩;replace hR:=hR.trans (hb4.mono hR.size);obtain⟨x0,x1,x2,x3,x4,x5,xl⟩:=Hp.out _ hR)|(go_at_call 86;with_reducible refine(HF3.out _ hR).mono ?_;rintro x w5 ⟨rfl,hb5⟩;replace hR:=hR.trans (hb5.mono hR.size);obtain⟨x0,x1,x2,x3,x4,x5,xl⟩:=Hp.out _ hR)|(go_at_call 84;with_reducible refine(HW.out _).mono ?_;rintro x w' ⟨rfl,rfl⟩)|(go_at_call 87;with_reducible refine(HF5.out _ hR).mono ?_;rintro x w' ⟨rfl,rfl⟩))
      go_ret
      exact⟨ret_bool (by rw[Hfin.out];simp[Hk0.out,Hpt.out,Hsrc.out]),HB.out _ hR⟩
    ·have hk0':((k:Int)==0)=false:=by simp;omega
     have Hk0:=Lhd hk0
     clear hk0
     go_wp2_with (first|(go_at_call 85;with_reducible refine(HF1.out _ _ _ _ (strs_one 9 name rfl okn)).mono ?_;rintro x w2 ⟨rfl,hb2⟩;replace hR:=(hR.alloc hR.size _).trans (hb2.mono (by first|(simp;done)|(have:=hR.size;simp;omega)));obtain⟨x0,x1,x2,x3,x4,x5,xl⟩:=Hp.out _ hR)|(go_at_call 85;with_reducible refine(HF4.out _ _ _ _ (strs_one 9 src rfl oks)).mono ?_;rintro x w3 ⟨rfl,hb3⟩;replace hR:=(hR.alloc hR.size _).trans (hb3.mono (by first|(simp;done)|(have:=hR.size;simp;omega)));obtain⟨x0,x1,x2,x3,x4,x5,xl⟩:=Hp.out _ hR)|(go_at_call 85;with_reducible refine(HF2.out _ hR).mono ?_;rintro x w4 ⟨rfl,hb4⟩;replace hR:=hR.trans (hb4.mono hR.size);obtain⟨x0,x1,x2,x3,x4,x5,xl⟩:=Hp.out _ hR)|(go_at_call 86;with_reducible refine(HF3.out _ hR).mono ?_;rintro x w5 ⟨rfl,hb5⟩;replace hR:=hR.trans (hb5.mono hR.size);obtain⟨x0,x1,x2,x3,x4,x5,xl⟩:=Hp.out _ hR)|(go_at_call 84;with_reducible refine(HW.out _).mono ?_;rintro x w' ⟨rfl,rfl⟩)|(go_at_call 87;with_reducible refine(HF5.out _ hR).mono ?_;rintro x w' ⟨rfl,rfl⟩))
     go_ret
     exact⟨ret_bool (by rw[Hfin.out];simp[Hk0.out,Hsrc.out,h8]),HB.out _ hR⟩
   ·have hsrc':=str_empty hsrc
    have Hsrc:=Lhd hsrc
    clear hsrc
    cases hpt:noS part
    ·have hpt':=str_some hpt
     have Hpt:=Lhd hpt
     clear hpt
     go_wp2_with (first|(go_at_call 85;with_reducible refine(HF1.out _ _ _ _ (strs_one 9 name rfl okn)).mono ?_;rintro x w2 ⟨rfl,hb2⟩;replace hR:=(hR.alloc hR.size _).trans (hb2.mono (by first|(simp;done)|(have:=hR.size;simp;omega)));obtain⟨x0,x1,x2,x3,x4,x5,xl⟩:=Hp.out _ hR)|(go_at_call 85;with_reducible refine(HF4.out _ _ _ _ (strs_one 9 src rfl oks)).mono ?_;rintro x w3 ⟨rfl,hb3⟩;replace hR:=(hR.alloc hR.size _).trans (hb3.mono (by first|(simp;done)|(have:=hR.size;simp;omega)));obtain⟨x0,x1,x2,x3,x4,x5,xl⟩:=Hp.out _ hR)|(go_at_call 85;with_reducible refine(HF2.out _ hR).mono ?_;rintro x w4 ⟨rfl,hb4⟩;replace hR:=hR.trans (hb4.mono hR.size);obtain⟨x0,x1,x2,x3,x4,x5,xl⟩:=Hp.out _ hR)|(go_at_call 86;with_reducible refine(HF3.out _ hR).mono ?_;rintro x w5 ⟨rfl,hb5⟩;replace hR:=hR.trans (hb5.mono hR.size);obtain⟨x0,x1,x2,x3,x4,x5,xl⟩:=Hp.out _ hR)|(go_at_call 84;with_reducible refine(HW.out _).mono ?_;rintro x w' ⟨rfl,rfl⟩)|(go_at_call 87;with_reducible refine(HF5.out _ hR).mono ?_;rintro x w' ⟨rfl,rfl⟩))
     go_ret
     exact⟨ret_bool (by rw[Hfin.out];simp[Hpt.out,Hsrc.out,h8]),HB.out _ hR⟩
    ·have hpt':=str_empty hpt
     have Hpt:=Lhd hpt
     clear hpt
     go_wp2_with (first|(go_at_call 85;with_reducible refine(HF1.out _ _ _ _ (strs_one 9 name rfl okn)).mono ?_;rintro x w2 ⟨rfl,hb2⟩;replace hR:=(hR.alloc hR.size _).trans (hb2.mono (by first|(simp;done)|(have:=hR.size;simp;omega)));obtain⟨x0,x1,x2,x3,x4,x5,xl⟩:=Hp.out _ hR)|(go_at_call 85;with_reducible refine(HF4.out _ _ _ _ (strs_one 9 src rfl oks)).mono ?_;rintro x w3 ⟨rfl,hb3⟩;replace hR:=(hR.alloc hR.size _).trans (hb3.mono (by first|(simp;done)|(have:=hR.size;simp;omega)));obtain⟨x0,x1,x2,x3,x4,x5,xl⟩:=Hp.out _ hR)|(go_at_call 85;with_reducible refine(HF2.out _ hR).mono ?_;rintro x w4 ⟨rfl,hb4⟩;replace hR:=hR.trans (hb4.mono hR.size);obtain⟨x0,x1,x2,x3,x4,x5,xl⟩:=Hp.out _ hR)|(go_at_call 86;with_reducible refine(HF3.out _ hR).mono ?_;rintro x w5 ⟨rfl,hb5⟩;replace hR:=hR.trans (hb5.mono hR.size);obtain⟨x0,x1,x2,x3,x4,x5,xl⟩:=Hp.out _ hR)|(go_at_call 84;with_reducible refine(HW.out _).mono ?_;rintro x w' ⟨rfl,rfl⟩)|(go_at_call 87;with_reducible refine(HF5.out _ hR).mono ?_;rintro x w' ⟨rfl,rfl⟩))
     go_ret
     exact⟨ret_bool (by rw[Hfin.out];simp[Hpt.out,Hsrc.out,h8]),HB.out _ hR⟩
theorem rightB_eq (d:Nat) (p:Pr):rightB d p=(headsR p.name p.src p.part p.fuel p.params&&smallZ (allZ 0 (sizeS d 0) (0,0) p.body)&&p.body.all (builtS d)):=rfl
theorem right_any (F:Nat→Prop) (d:Nat) (p:Pr) (row:List Value) (w:World) (h:PrAt F d w row p) (hd:d≤10000) (hbig:p.params.length≤1000000) :
  Calls Tryz.prog 30 #[.agg row.toArray] w fun x w'=>x=.returned (.bool (rightB d p))∧Below w.heap.size w w':=by
 obtain⟨okn,oks,okp,_,Ap,np,cp,Ab,nb,cb,rfl,hpl,hbl⟩:=h
 rw[hpl.len] at hbig
 have hb1:Below w.heap.size w (w.alloc (.cells #[.string p.name,.string p.src,.string p.part,.int .i64 p.fuel,.slice Ap np cp,.slice Ab nb cb] 36)):=(Below.refl _ _).alloc (Nat.le_refl _) _
 have hx1:IsBlk (w.alloc (.cells #[.string p.name,.string p.src,.string p.part,.int .i64 p.fuel,.slice Ap np cp,.slice Ab nb cb] 36)) w.heap.size 36 #[.string p.name,.string p.src,.string p.part,.int .i64 p.fuel,.slice Ap np cp,.slice Ab nb cb]:=IsBlk.laid _ _ _
 have Hx1:=Lhd hx1
 have Ha:=Lhd (allS_any F d (sizeS_any F d) Ab nb cb p.body 0 _ (hbl.below hb1) (by omega) (by omega))
 have Hh:=Lhd (fun W (hW:Below w.heap.size w W)=>heads_any F p.name p.src p.part p.fuel Ap Ab np cp nb cb p.params W (hpl.below hW) okn oks hbig)
 have Hb:=Lhd (fun W (hW:Below w.heap.size w W)=>blocks_any F d Ab nb cb p.body W (hbl.below hW))
 have hfin:=rightB_eq d p
 generalize allZ 0 (sizeS d 0) (0,0) p.body=s at *
 generalize headsR p.name p.src p.part p.fuel p.params=qh at *
 generalize p.body.all (builtS d)=qb at *
 generalize rightB d p=fin at *
 have Hfin:=Lhd hfin
 clear hfin hx1
 obtain⟨s1,s2⟩:=s
 go_enter Tryz.func30,Tryz.ntmps30
 go_upto_region 2 with (go_at_call 53;refine Ha.out.mono ?_;rintro x w1 ⟨rfl,hb⟩;have hx2:=Hx1.out.as_was (hb.block _ Hx1.out.lt))
 have hz:=hb.size
 simp at hz
 have hk:IsBlk (w1.alloc (.cells #[.int .i64 s1,.int .i64 s2] 129)) w1.heap.size 129 #[.int .i64 s1,.int .i64 s2]:=IsBlk.laid _ _ _
 have hx3:=hx2.alloc (.cells #[.int .i64 s1,.int .i64 s2] 129)
 have hb2:=(hb1.trans (hb.mono hb1.size)).alloc (by omega) (.cells #[.int .i64 s1,.int .i64 s2] 129)
 have Hk:=Lhd hk
 have Hx3:=Lhd hx3
 have Hs:=Lhd (fun W (h:IsBlk W w1.heap.size 129 #[.int .i64 s1,.int .i64 s2])=>small_any _ s1 s2 W h)
 obtain⟨z0,z1,z2,z3,z4,z5,zl⟩:=prBox hx2
 clear hk hx2 hx3
 generalize smallZ (s1,s2)=qs at *
 cases qh<;>cases qs
 all_goals
  go_wp2_with (first|(go_at_call 55;refine(Hh.out _ hb2).mono ?_;rintro x w3 ⟨rfl,hb3⟩;have hk3:=Hk.out.as_was (hb3.block _ Hk.out.lt);have hx4:=Hx3.out.as_was (hb3.block _ Hx3.out.lt);have hb03:=hb2.trans (hb3.mono hb2.size);obtain⟨y0,y1,y2,y3,y4,y5,yl⟩:=prBox hx4)|(go_at_call 56;refine(Hs.out _ hk3).mono ?_;rintro x w' ⟨rfl,rfl⟩)|(go_at_call 57;refine(Hb.out _ hb03).mono ?_;rintro x w4 ⟨rfl,hb4⟩))
  go_ret
  first|exact⟨ret_bool (by rw[Hfin.out];simp),hb03.trans (hb4.mono hb03.size)⟩|exact⟨ret_bool (by rw[Hfin.out];simp),hb03⟩
open Go.RowKit Go.Afx Go.Maps Go.WideMaps
def litS (s:ByteArray):Lit:=.string s.data.toList
def UseAt (w:World) (b:Nat) (L:List ByteArray):Prop:=w.ownsMap Tryz.prog 9 (plainElem (H:=Unit) Tryz.prog 4) b L.length (setOf (.lit (.bool true)) (L.map litS))
section
variable {w w':World} {b:Nat} {L:List ByteArray}
theorem UseAt.lt (h:UseAt w b L):b<w.heap.size:=World.ownsMap.lt h
theorem UseAt.as_was (h:UseAt w b L) (e:w'.heap[b]?=w.heap[b]?):UseAt w' b L:=by
 obtain⟨es,clock,hb,rest⟩:=h
 exact⟨es,clock,e.trans hb,rest⟩
theorem UseAt.but {S:Nat→Prop} (h:UseAt w b L) (hb:But S w w') (hn:¬ S b):UseAt w' b L:=h.as_was (hb.block b h.lt hn)
theorem UseAt.below (h:UseAt w b L) (hb:Below w.heap.size w w'):UseAt w' b L:=h.as_was (hb.block b h.lt)
theorem UseAt.made (w:World):UseAt (w.alloc (.map #[] 0)) w.heap.size []:=World.ownsMap_made w _ _ _
end
theorem setOf_put (L:List ByteArray) (s:ByteArray):(setOf (.lit (.bool true)) (L.map litS):DataW Unit).put (litS s) (.lit (.bool true))=setOf (.lit (.bool true)) ((L++[s]).map litS):=by
 rw[List.map_append,List.map_singleton,setOf_snoc]
theorem UseAt.put {w':World} {b:Nat} {L:List ByteArray} {s:ByteArray} (h:w'.ownsMap Tryz.prog 9 (plainElem (H:=Unit) Tryz.prog 4) b (L.length+1) ((setOf (.lit (.bool true)) (L.map litS):DataW Unit).put (litS s) (.lit (.bool true)))):UseAt w' b (L++[s]):=by
 rw[setOf_put] at h
 unfold UseAt
 rw[List.length_append]
 exact h
theorem exBox {w:World} {g:Nat} {T:TypeId} {op n:Int} {s name src:ByteArray} {A:Option Addr} {m c:Nat} (h:IsBlk w g T #[.int .i64 op,.int .i64 n,.string s,.string name,.string src,.slice A m c]) :
  w.cell? ⟨g,0,none⟩=some (.int .i64 op)∧w.cell? ⟨g,1,none⟩=some (.int .i64 n)∧w.cell? ⟨g,2,none⟩=some (.string s)∧w.cell? ⟨g,3,none⟩=some (.string name)∧w.cell? ⟨g,4,none⟩=some (.string src)∧w.cell? ⟨g,5,none⟩=some (.slice A m c)∧g<w.heap.size:=by
 have h0:=h.cell 0;have h1:=h.cell 1;have h2:=h.cell 2;have h3:=h.cell 3;have h4:=h.cell 4;have h5:=h.cell 5
 simp at h0 h1 h2 h3 h4 h5
 exact⟨h0,h1,h2,h3,h4,h5,h.lt⟩
def UsesE (F:Nat→Prop) (d:Nat):Prop:=∀ (e:Ex) (row:List Value) (w:World) (b1 b2 b3:Nat) (L:List ByteArray),ExAt F d w row e→UseAt w b1 L→(∀ k,F k→k≠b1)→L.length+(srcsE d e).length≤1000000 →
 Calls Tryz.prog 126 #[.agg #[.map (some b1),.map (some b2),.map (some b3)],.agg row.toArray] w fun x w'=>x=.returned (.tuple #[])∧UseAt w' b1 (L++srcsE d e)∧But (fun k=>k=b1) w w'
open Go.RowKit Go.Afx Go.Maps Go.WideMaps
theorem RowsAt.drew {w:World} {sz:Nat} {A:Option Addr} {n c:Nat} {xs:List (List Value)} (h:RowsAt w sz A n c xs):RowsAt w.drew sz A n c xs:=⟨h.len,h.cap,h.max,h.at_⟩
def NB (b1 b2 b3:Nat):Nat→Prop:=fun k=>k≠b1∧k≠b2∧k≠b3
def S3 (b1 b2 b3:Nat):Nat→Prop:=fun k=>k=b1∨k=b2∨k=b3
structure Sets (w:World) (b1 b2 b3:Nat) (L1 L2 L3:List ByteArray):Prop where
 one:UseAt w b1 L1
 two:UseAt w b2 L2
 three:UseAt w b3 L3
 n12:b1≠b2
 n13:b1≠b3
 n23:b2≠b3
section
variable {w w':World} {b1 b2 b3:Nat} {L1 L2 L3:List ByteArray}
theorem Sets.below (h:Sets w b1 b2 b3 L1 L2 L3) (hb:Below w.heap.size w w'):Sets w' b1 b2 b3 L1 L2 L3:=⟨h.one.below hb,h.two.below hb,h.three.below hb,h.n12,h.n13,h.n23⟩
theorem Sets.first {L:List ByteArray} (h:Sets w b1 b2 b3 L1 L2 L3) (hu:UseAt w' b1 L) (hb:But (fun k=>k=b1) w w'):Sets w' b1 b2 b3 L L2 L3:=⟨hu,h.two.but hb h.n12.symm,h.three.but hb h.n13.symm,h.n12,h.n13,h.n23⟩
end
def UsesS (d:Nat):Prop:=∀ (b1 b2 b3:Nat) (x:St) (row:List Value) (w:World) (L1 L2 L3:List ByteArray),StAt (NB b1 b2 b3) d w row x→Sets w b1 b2 b3 L1 L2 L3 →
 L1.length+cntS d x≤1000000→L2.length+cntS d x≤1000000→L3.length+cntS d x≤1000000 →
 Calls Tryz.prog 102 #[.agg #[.map (some b1),.map (some b2),.map (some b3)],.agg row.toArray] w fun r w'=>r=.returned (.tuple #[])∧Sets w' b1 b2 b3 (L1++readsS d x) (L2++writesS d x) (L3++emitsS d x)∧But (S3 b1 b2 b3) w w'
def Joined (b1 b2 b3:Nat) (d:Nat) (ys:List St) (n:Nat) (Q:World→Prop) (s55 s56 s57:Value) (W:World):Prop :=
 ∃ A c,s55=.slice A n c∧s56=.int .i64 n∧s57=.int .i64 0∧StsAt (NB b1 b2 b3) d W A n c ys∧Q W
open Go.RowKit Go.Afx Go.Maps Go.WideMaps
theorem UseAt.alloc {w:World} {b:Nat} {L:List ByteArray} (h:UseAt w b L) (o:Obj):UseAt (w.alloc o) b L:=World.ownsMap.alloc h o
theorem Sets.but {w w':World} {S:Nat→Prop} {b1 b2 b3:Nat} {L1 L2 L3:List ByteArray} (h:Sets w b1 b2 b3 L1 L2 L3) (hb:But S w w') (n1:¬ S b1) (n2:¬ S b2) (n3:¬ S b3):Sets w' b1 b2 b3 L1 L2 L3:=⟨h.one.but hb n1,h.two.but hb n2,h.three.but hb n3,h.n12,h.n13,h.n23⟩
def GivesU (w:World) (R Wr Em:List ByteArray) (r:Ending) (w':World):Prop :=
 ∃ b1 b2 b3,r=.returned (.agg #[.map (some b1),.map (some b2),.map (some b3)])∧Sets w' b1 b2 b3 R Wr Em∧Below w.heap.size w w'
open Go.RowKit Go.Afx Go.Maps Go.WideMaps Go.Shelf Go.Sort
def setL (L:List ByteArray):List (List UInt8):=(strKeys (setOf (.lit (.bool true)) (L.map litS):DataW Unit)).mergeSort fun x y=>decide (x≤y)
def OwnsN (w:World) (ns:List (List UInt8)) (e:Ending) (w':World):Prop :=
 ∃ A c,e=.returned (.slice A ns.length c)∧w'.ownsRow w.heap.size 9 1 (.slice A ns.length c) ns.length (ns.map encStr)∧Below w.heap.size w w'
end Go.Proofs.YtmfcmpnlipnopaaGreat
