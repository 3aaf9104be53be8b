/- Parts of this proof, one behind the other: FloNF, FloNG, FloU. -/
import Derived.Test.YtomfpjgcficlgaaGreatFn32
import Derived.Test.YtomfpjgcficlgaaGreatFn30
import Derived.Deep.DeepCutAuto
import Derived.Outline
import Derived.Test.YtomfpjgcficlgaaGreatFn33
import Derived.Test.YtomfpjgcficlgaaGreatFn29
import Derived.Test.YtomfpjgcficlgaaGreatFn2
import Derived.ProofKit
set_option maxRecDepth 1000000
set_option maxHeartbeats 40000000
namespace Go.Proofs.YtomfpjgcficlgaaGreat
open Go.RowKit Go.Afx Go.ChangeShapes
theorem tyStp:ElemTy Tryz.prog 33 63 3 56 (.agg #[.string ByteArray.empty,.string ByteArray.empty,.slice none 0 0]):=⟨Tryz.underlying33,by kernel_rfl,rfl,by decide⟩
theorem stpStays:Stays (fun F w r s=>StpRow F w r s):=fun _ _ _ _ _ _ hF hk h=>h.conv hF hk
def FillS (base:Nat) (w:World) (A:Option Addr) (n c:Nat) (M:List Stp):Prop:=FillAt 63 3 (fun F w r s=>StpRow F w r s) base w A n c M
theorem FillS.steps {base:Nat} {w:World} {A:Option Addr} {n c:Nat} {M:List Stp} (h:FillS base w A n c M):StpsAt (fun q=>base≤q∧q<w.heap.size) w A n c M:=FillAt.ls stpStays h
theorem prGet {w:World} {A1 A:Option Addr} {n1 c1 n c:Nat} {ss:List ByteArray} {l:List Nd} (h:CatAt w A1 n1 c1 A n c ss (l.map prOf)) {k:Nat} (hk:k<n) :
  ∃ b o x Ap cp Ab nb cb,A=some ⟨b,o,none⟩∧b<w.heap.size∧l[k]?=some x∧okS x.name∧okS x.src∧w.cell? ⟨b,o+k*6,none⟩=some (.string x.name)∧w.cell? ⟨b,o+k*6+1,none⟩=some (.string x.src) ∧
   w.cell? ⟨b,o+k*6+2,none⟩=some (.string ⟨#[]⟩)∧w.cell? ⟨b,o+k*6+3,none⟩=some (.int .i64 (if x.odd then 0 else 1))∧w.cell? ⟨b,o+k*6+4,none⟩=some (.slice Ap 0 cp)∧w.cell? ⟨b,o+k*6+5,none⟩=some (.slice Ab nb cb) ∧
   LsAt (fun q=>q<w.heap.size) w 2 CoRow Ap 0 cp []∧StsAt (fun q=>q<w.heap.size) 2 w Ab nb cb (x.ems.map emSt):=by
 obtain⟨b,o,r,p,hA,hb,_,hp,hl,hP,hc⟩:=h.procs.get hk
 rw[List.getElem?_map] at hp
 obtain⟨x,hx,rfl⟩:=Option.map_eq_some_iff.1 hp
 obtain⟨h1,h2,h3,h4,Ap,np,cp,Ab,nb,cb,rfl,k1,k2⟩:=hP
 obtain rfl:np=0:=(LsAt.len k1).symm
 exact⟨b,o,x,Ap,cp,Ab,nb,cb,hA,hb,hx,h1,h2,hc 0 _ rfl,hc 1 _ rfl,hc 2 _ rfl,hc 3 _ rfl,hc 4 _ rfl,hc 5 _ rfl,k1,k2⟩
theorem netC_take {l:List Nd} {k:Nat} {x:Nd} (h:l[k]?=some x):netC ((l.take (k+1)).map prOf)=addStp (netC ((l.take k).map prOf)) (stpOf 2 (prOf x)):=by
 unfold netC
 rw[List.map_map,List.map_map,List.map_take,List.map_take]
 exact netOf_take (by rw[List.getElem?_map,h];rfl)
theorem netC_len (l:List Nd) (k:Nat):(netC ((l.take k).map prOf)).length≤k:=by
 unfold netC
 refine Nat.le_trans (netOf_length _) ?_
 simp;omega
theorem boxSt {w:World} {g:Nat} {T:TypeId} {v0 v1 v2:Value} (h:IsBlk w g T #[v0,v1,v2]):w.cell? ⟨g,0,none⟩=some v0∧w.cell? ⟨g,1,none⟩=some v1∧w.cell? ⟨g,2,none⟩=some v2∧g<w.heap.size:=⟨h.cell 0,h.cell 1,h.cell 2,h.lt⟩
theorem stored_st {w:World} {g:Nat} {T:TypeId} {v0 v1 v2 v:Value} (h:IsBlk w g T #[v0,v1,v2]):IsBlk (w.setCell ⟨g,2,none⟩ v) g T #[v0,v1,v]:=h.stored 2 _
theorem stp_new {w:World} {T:TypeId} {g:Nat} (hg:g=w.heap.size) (a b:ByteArray) (A:Option Addr) (n c:Nat):RowsAt (w.alloc (.cells #[.string a,.string b,.slice A n c] T)) 3 (some ⟨g,0,none⟩) 1 1 [[.string a,.string b,.slice A n c]]:=RowsAt.lit' _ _ 1 hg rfl (by simp) rfl (by unfold maxLen;omega)
theorem FindIs.no {M:List Stp} {x:ByteArray} {i:Int} (h:FindIs M x i) (hx:x ∉ M.map Stp.name):i = -1:=by
 rcases h with ⟨_,h⟩|⟨k,s,_,hs,hn⟩
 ·exact h
 ·exact absurd (hn▸List.mem_map_of_mem (List.mem_of_getElem? hs)) hx
theorem FindIs.yes {M:List Stp} {x:ByteArray} {i:Int} (h:FindIs M x i) (hx:x∈M.map Stp.name):∃ k:Nat,i=k:=by
 rcases h with ⟨h,_⟩|⟨k,s,hk,_⟩
 ·exact absurd hx h
 ·exact⟨k,hk⟩
theorem stp_row {F:Nat→Prop} {w:World} {x:Nd} {A:Option Addr} {n c:Nat} (okn:okS x.name) (oks:okS x.src) (h:LsAt F w 1 SRow A n c (putsB [] (if rightB 2 (prOf x) then x.ems else []))):StpRow F w [.string x.name,.string x.src,.slice A n c] (stpOf 2 (prOf x)):=by
 refine⟨okn,oks,A,n,c,rfl,?_⟩
 have e:(stpOf 2 (prOf x)).ems=putsB [] (emitsP 2 (prOf x)):=rfl
 rw[e,emits_pr]
 exact h
def StepsR (M:List Stp) (w:World) (e:Ending) (w':World):Prop:=∃ A n c,e=.returned (.slice A n c)∧StpsAt (fun q=>w.heap.size≤q∧q<w'.heap.size) w' A n c M∧Below w.heap.size w w'
def StepsIn (B:Nat) (w2:World) (M:List Stp) (u:Value) (wr:World):Prop:=∃ A m c,u=.slice A m c∧FillS B wr A m c M∧Below w2.heap.size w2 wr
theorem stepsR_any (HRB:∀ F:Nat→Prop,RBuiltS F 2) (A1 A:Option Addr) (n1 c1 n c:Nat) (ss:List ByteArray) (l:List Nd) (w:World) (h:CatAt w A1 n1 c1 A n c ss (l.map prOf)) (h8:∀ x∈l,x.ems.length≤8) (hems:∀ x∈l,∀ s∈x.ems,okS s) :
  Calls Tryz.prog 7 #[catV A1 n1 c1 A n c] w (StepsR (netC (l.map prOf)) w):=by
 have hn12:=h.few
 have hln:l.length=n:=by have:=h.procs.len;simpa using this
 have Hln:=Lhd hln
 obtain⟨w2,Hw2⟩:∃ w2,Hid (w2=w.alloc (.cells (catB A1 n1 c1 A n c) 29)):=⟨_,rfl⟩
 have hb2:Below w.heap.size w w2:=by rw[Hw2.out];exact(Below.refl _ _).alloc (Nat.le_refl _) _
 have hx2:IsBlk w2 w.heap.size 29 (catB A1 n1 c1 A n c):=by rw[Hw2.out];exact IsBlk.laid _ _ _
 have HX:=Lhd (fun W (hW:Below w2.heap.size w2 W)=>catCells (hx2.as_was (hW.block _ hx2.lt)))
 have HC:=Lhd (fun W (hW:Below w2.heap.size w2 W)=>(h.below hb2).below hW)
 have HB2:=Lhd hb2
 clear hx2 h hb2
 unfold catV
 go_enter Tryz.func7,Tryz.ntmps7
 go_upto_region 1 with (fail)
 have hw2:w.alloc (.cells #[.slice none 0 0,.slice A1 n1 c1,.slice none 0 0,.slice none 0 0,.slice A n c] 29)=w2:=Hw2.out.symm
 rw[hw2]
 clear hw2
 go_wp2
 go_loopw [3,4] (fun u3 i wr=>∃ k:Nat,k≤n∧i=.int .i64 k∧StepsIn w2.heap.size w2 (netC ((l.take k).map prOf)) u3 wr) (fun _ i _=>n-(intOf i).toNat)
 case atStart=>exact⟨0,Nat.zero_le _,rfl,none,0,0,rfl,FillAt.nil_ _ _ _ _ _,Below.refl _ _⟩
 case round =>
  generalize wr=w1 at *
  obtain⟨k,hk,rfl,A3,m,c3,rfl,hF,hB⟩:=hrel
  have HF:=Lhd hF
  have HB:=Lhd hB
  have hm:m≤k:=by have h1:=LsAt.len hF.steps;have h2:=netC_len l k;omega
  have hsB:=hB.size
  obtain⟨z0,z1,z2,z3,z4,zl⟩:=HX.out w1 hB
  clear hF
  by_cases hlt:k<n
  rotate_left
  ·have e5:l.take k=l:=List.take_of_length_le (by omega)
   have h1:=HF.out
   rw[e5] at h1
   have H1:=Lhd h1
   clear h1 hB
   go_wp2
   go_ret
   exact⟨_,_,_,rfl,LsAt.conv H1.out.steps (Kept.refl _ _) (fun _ _ _ hq=>⟨Nat.le_trans HB2.out.size hq.1,hq.2⟩) (fun _ _ _ hq=>hq.conv (fun _ hq=>⟨Nat.le_trans HB2.out.size hq.1,hq.2⟩) (Kept.refl _ _)),HB2.out.trans (HB.out.mono HB2.out.size)⟩
  obtain⟨b,o,x,Ap,cp,Ab,nb,cb,rfl,hbl,hx,okn,oks,p0,p1,p2,p3,p4,p5,hps,hbs⟩:=prGet (HC.out w1 hB) hlt
  have Htk:=Lhd (netC_take hx)
  have h8x:=h8 x (List.mem_of_getElem? hx)
  have Hex:=Lhd (hems x (List.mem_of_getElem? hx))
  obtain⟨fu,Hfu⟩:∃ fu:Int,Hid ((if x.odd then 0 else 1)=fu):=⟨_,rfl⟩
  rw[Hfu.out] at p3
  obtain⟨w3,Hw3⟩:∃ w3,Hid (w3=w1.alloc (.cells #[.string x.name,.string x.src,.string ⟨#[]⟩,.int .i64 fu,.slice Ap 0 cp,.slice Ab nb cb] 46)):=⟨_,rfl⟩
  have hb3:Below w1.heap.size w1 w3:=by rw[Hw3.out];exact(Below.refl _ _).alloc (Nat.le_refl _) _
  have hs3:w3.heap.size=w1.heap.size+1:=by rw[Hw3.out];simp
  have hx3:IsBlk w3 w1.heap.size 46 #[.string x.name,.string x.src,.string ⟨#[]⟩,.int .i64 fu,.slice Ap 0 cp,.slice Ab nb cb]:=by rw[Hw3.out];exact IsBlk.laid _ _ _
  obtain⟨w4,Hw4⟩:∃ w4,Hid (w4=w3.alloc (.cells #[.string x.name,.string x.src,.slice none 0 0] 63)):=⟨_,rfl⟩
  have hb4:Below w3.heap.size w3 w4:=by rw[Hw4.out];exact(Below.refl _ _).alloc (Nat.le_refl _) _
  have hs4:w4.heap.size=w3.heap.size+1:=by rw[Hw4.out];simp
  have hx4:IsBlk w4 w3.heap.size 63 #[.string x.name,.string x.src,.slice none 0 0]:=by rw[Hw4.out];exact IsBlk.laid _ _ _
  have HP3:=Lhd (fun W (hW:Below w3.heap.size w3 W)=>boxPr (hx3.as_was (hW.block _ hx3.lt)))
  have HS4:=Lhd (fun W (hW:Below w4.heap.size w4 W)=>hx4.as_was (hW.block _ hx4.lt))
  obtain⟨a0,a1,a2,a3,a4,a5,al⟩:=boxPr hx3
  obtain⟨q0,q1,q2,q3,q4,q5,ql⟩:=HP3.out w4 hb4
  have hb14:Below w1.heap.size w1 w4:=hb3.trans (hb4.mono hb3.size)
  have HR:=Lhd (rightF_any HRB _ x Ap Ab 0 cp nb cb w4 okn oks (hps.below hb14) (StsAt.below hbs hb14) h8x)
  have HR':=HR.out
  rw[Hfu.out] at HR'
  have HR:=Lhd HR'
  have Hbs:=Lhd (fun W (hW:Below w1.heap.size w1 W)=>StsAt.below hbs hW)
  have HFd:=Lhd (findR_any _ A3 m c3 _ x.name w3 (HF.out.steps.below hb3))
  have Hb3:=Lhd hb3
  have Hb4:=Lhd hb4
  have Hb14:=Lhd hb14
  have HoN:=Lhd okn
  have HoS:=Lhd oks
  clear hx hx3 hx4 hps hbs HR' hB hb3 hb4 hb14 okn oks
  go_upto_region 6 with (fail)
  rw[← Hw3.out]
  by_cases hin:x.name∈(netC ((l.take k).map prOf)).map Stp.name
  ·have Hin:=Lhd hin
   clear hin
   go_wp2_with (go_at_call 19;refine HFd.out.mono ?_;rintro y w6 ⟨⟨ix,rfl,hix⟩,rfl⟩;obtain⟨k7,rfl⟩:=hix.yes Hin.out;have dk:decide ((0:Int)≤(k7:Int))=true:=(by simp);clear hix)
   go_roundw
   case rel =>
    refine⟨k+1,by omega,by go_num,_,m,c3,rfl,?_,HB.out.trans (Hb3.out.mono HB.out.size)⟩
    have e:netC ((l.take (k+1)).map prOf)=netC ((l.take k).map prOf):=by rw[Htk.out];exact if_pos Hin.out
    rw[e]
    exact FillAt.below stpStays HF.out Hb3.out
   case measure=>simp[intOf];omega
  have Hin:=Lhd hin
  clear hin
  have hsm:m+1≤maxLen:=by unfold maxLen;omega
  have hby:(m+1)*56≤140737488355328:=by omega
  have Hnet:Hid (netC ((l.take (k+1)).map prOf)=netC ((l.take k).map prOf)++[stpOf 2 (prOf x)]):=Lhd (by rw[Htk.out];exact if_neg Hin.out)
  have haddr:=FillAt.addr HF.out
  obtain⟨rows,ho,r2,r3,r4,r5⟩:=HF.out
  have Haddr:=Lhd haddr
  have Hrow:=Lhd (And.intro r2 (And.intro r3 (And.intro r4 r5)))
  have Ho:=Lhd (fun W (hW:Below w1.heap.size w1 W)=>own_below ho hW)
  clear haddr r2 r3 r4 r5 ho
  go_upto_region 8 with (go_at_call 19;refine HFd.out.mono ?_;rintro y w6 ⟨⟨ix,rfl,hix⟩,rfl⟩;obtain rfl:=hix.no Hin.out;clear hix)
  rw[← Hw4.out]
  obtain⟨q,Hq⟩:∃ q,Hid (rightB 2 (prOf x)=q):=⟨_,rfl⟩
  cases q
  ·go_wp2_with (first
    | (go_at_call 20;refine HR.out.mono ?_;rintro y w5 ⟨rfl,hb5⟩;rw[Hq.out];obtain⟨s0,s1,s2,sl⟩:=boxSt (HS4.out w5 hb5);rw[hs3] at s0 s1 s2;have hb15:Below w1.heap.size w1 w5:=Hb14.out.trans (hb5.mono Hb14.out.size);have hs5:=hb5.size;have hb18:Below w1.heap.size w1 (w5.alloc (.cells #[.string x.name,.string x.src,.slice none 0 0] 63)):=hb15.alloc hb15.size _;have hownA:=Ho.out _ hb18;have hnewA:=stp_new (w:=w5) (g:=w5.heap.size) (T:=63) rfl x.name x.src none 0 0)
    | (at_builtin;(refine wpList_app (s:=.tmp 35) (x:=.tmp 37) (xs:=rows) (news:=[[.string x.name,.string x.src,.slice none 0 0]]) rfl rfl tyStp rfl hownA rfl hnewA (by simp) (by simp[Value.oneCell']) hsm hby ?_ ?_;(exact Nat.le_trans hsB hb18.size);intro A9 c9 w9 hown9 hbut9 hf9)))
   go_roundw
   case rel =>
    refine⟨k+1,by omega,by go_num,A9,m+1,c9,rfl,?_,?_⟩
    ·rw[Hnet.out]
     exact FillAt.push stpStays Hrow.out.1 Hrow.out.2.1 Hrow.out.2.2.1 Hrow.out.2.2.2 hsB (fun q hq=>(Haddr.out q hq).2) hb18 (stp_row HoN.out HoS.out (by rw[Hq.out];exact ls_names (NamesAt.none_ (by unfold maxLen;omega)) (by simp[putsB]) (fun q hq=>by cases hq))) rfl hown9 hbut9 hf9
    ·exact(HB.out.trans (hb18.mono HB.out.size)).trans (hbut9.below' (Nat.le_trans hsB hb18.size) (fun q hq=>(Haddr.out q hq).1))
   case measure=>simp[intOf];omega
  ·go_wp2_with (first
    | (go_at_call 20;refine HR.out.mono ?_;rintro y w5 ⟨rfl,hb5⟩;rw[Hq.out];have hI5:=HS4.out w5 hb5;have hs5:=hb5.size;obtain⟨q0,q1,q2,q3,q4,q5,ql⟩:=HP3.out w5 (Hb4.out.trans (hb5.mono Hb4.out.size));have hb15:Below w1.heap.size w1 w5:=Hb14.out.trans (hb5.mono Hb14.out.size);have HU:=Lhd (usesEm_any _ Ab nb cb x.ems w5 (Hbs.out w5 hb15) (by omega)))
    | (go_at_call 21;refine HU.out.mono ?_;rintro y w6 ⟨A7,n7,c7,rfl,hn7,hb6,hq7⟩;have hs6:=hb6.size;have hI6:=hI5.as_was (hb6.block _ hI5.lt);have hfz6:=hI6.frozen;obtain⟨t0,t1,t2,tl⟩:=boxSt hI6;have hI7:=stored_st (v:=.slice A7 n7 c7) hI6;obtain⟨s0,s1,s2,sl⟩:=boxSt hI7;rw[hs3] at s0 s1 s2 t0 t1 t2 tl hfz6;
          have hb17:Below w1.heap.size w1 (w6.setCell ⟨w1.heap.size+1,2,none⟩ (.slice A7 n7 c7)):=(hb15.trans (hb6.mono hb15.size)).setCell (p:=⟨w1.heap.size+1,2,none⟩) (by simp) _;
          have hb18:Below w1.heap.size w1 ((w6.setCell ⟨w1.heap.size+1,2,none⟩ (.slice A7 n7 c7)).alloc (.cells #[.string x.name,.string x.src,.slice A7 n7 c7] 63)):=hb17.alloc hb17.size _;have hownA:=Ho.out _ hb18;have hnewA:=stp_new (w:=w6.setCell ⟨w1.heap.size+1,2,none⟩ (.slice A7 n7 c7)) (g:=w6.heap.size) (T:=63) (by simp) x.name x.src A7 n7 c7)
    | (at_builtin;(refine wpList_app (s:=.tmp 35) (x:=.tmp 37) (xs:=rows) (news:=[[.string x.name,.string x.src,.slice A7 n7 c7]]) rfl rfl tyStp rfl hownA rfl hnewA (by simp) (by simp[Value.oneCell']) hsm hby ?_ ?_;(exact Nat.le_trans hsB hb18.size);intro A9 c9 w9 hown9 hbut9 hf9)))
   go_roundw
   case rel =>
    refine⟨k+1,by omega,by go_num,A9,m+1,c9,rfl,?_,?_⟩
    ·rw[Hnet.out]
     have hls:LsAt (fun q=>w5.heap.size≤q∧q<w6.heap.size) w6 1 SRow A7 n7 c7 (putsB [] x.ems):=ls_names hn7 (fun s hs=>Hex.out s (mem_puts.1 hs)) (fun q hq=>by
      rcases hq7 with h|h
      ·rw[h] at hq;cases hq
      ·exact h q hq)
     have hk1:Kept (fun q=>w5.heap.size≤q∧q<w6.heap.size) w6 ((w6.setCell ⟨w1.heap.size+1,2,none⟩ (.slice A7 n7 c7)).alloc (.cells #[.string x.name,.string x.src,.slice A7 n7 c7] 63)) :=
      (Kept.of_but ((But.refl (fun q=>q=w1.heap.size+1) w6).setCell (p:=⟨w1.heap.size+1,2,none⟩) (.inl rfl) _) (fun q hq hs=>by subst hs;have:=hq.1;omega)).trans (Kept.of_below ((Below.refl _ _).alloc (Nat.le_refl _) _))
     have hz8:w6.heap.size≤((w6.setCell ⟨w1.heap.size+1,2,none⟩ (.slice A7 n7 c7)).alloc (.cells #[.string x.name,.string x.src,.slice A7 n7 c7] 63)).heap.size:=by simp
     have hcv:LsAt (fun q=>w1.heap.size≤q∧q<((w6.setCell ⟨w1.heap.size+1,2,none⟩ (.slice A7 n7 c7)).alloc (.cells #[.string x.name,.string x.src,.slice A7 n7 c7] 63)).heap.size) ((w6.setCell ⟨w1.heap.size+1,2,none⟩ (.slice A7 n7 c7)).alloc (.cells #[.string x.name,.string x.src,.slice A7 n7 c7] 63)) 1 SRow A7 n7 c7 (putsB [] x.ems):=LsAt.conv hls hk1 (fun _ _ _ hq=>⟨by have:=hq.1;omega,Nat.lt_of_lt_of_le hq.2 hz8⟩) (fun _ _ _ h=>h)
     exact FillAt.push stpStays Hrow.out.1 Hrow.out.2.1 Hrow.out.2.2.1 Hrow.out.2.2.2 hsB (fun q hq=>(Haddr.out q hq).2) hb18 (stp_row HoN.out HoS.out (by rw[Hq.out];exact hcv)) rfl hown9 hbut9 hf9
    ·exact(HB.out.trans (hb18.mono HB.out.size)).trans (hbut9.below' (Nat.le_trans hsB hb18.size) (fun q hq=>(Haddr.out q hq).1))
   case measure=>simp[intOf];omega
def bordR (M:List Stp) (ss:List ByteArray):List ByteArray:=putsB [] (ss.filter fun s=>decide (emitN M [s]=[]))
theorem bord_eq (M:List Stp) (ss:List ByteArray):bordN M ss=bordR M ss:=once_puts _
theorem bordR_take {M:List Stp} {ss:List ByteArray} {k:Nat} {s:ByteArray} (h:ss[k]?=some s):bordR M (ss.take (k+1))=if decide (emitN M [s]=[]) then putB (bordR M (ss.take k)) s else bordR M (ss.take k):=by
 unfold bordR
 rw[List.take_add_one,h,Option.toList_some,List.filter_append,putsB_append]
 by_cases hq:emitN M [s]=[]
 ·simp[hq,putsB]
 ·simp[hq,putsB]
theorem bordR_len (M:List Stp) (ss:List ByteArray) (k:Nat):(bordR M (ss.take k)).length≤ss.length:=by
 unfold bordR
 have h1:=putsB_len1 ((ss.take k).filter fun s=>decide (emitN M [s]=[])) []
 have h2:=List.length_filter_le (fun s=>decide (emitN M [s]=[])) (ss.take k)
 have h3:(ss.take k).length≤ss.length:=by simp;omega
 rw[List.length_nil] at h1
 omega
theorem names_at {w:World} {b o n c:Nat} {l:List ByteArray} {k:Nat} {s:ByteArray} (h:NamesAt w (some ⟨b,o,none⟩) n c l) (hs:l[k]?=some s):NamesAt w (some ⟨b,o+k,none⟩) 1 (c-k) [s]:=by
 have hk:k<n:=by have:=h.len;have:=(List.getElem?_eq_some_iff.1 hs).1;omega
 have h1:=(h.drop (k:=k) (by omega)).cut (k:=1) (by omega)
 have e:(l.drop k).take 1=[s]:=by
  obtain⟨hl,rfl⟩:=List.getElem?_eq_some_iff.1 hs
  rw[List.drop_eq_getElem_cons hl];rfl
 rwa [e] at h1
theorem same_eq {w:World} {A A2:Option Addr} {n m c c2:Nat} {xs ys:List ByteArray} (h1:NamesAt w A n c xs) (h2:NamesAt w A2 m c2 ys) (he:xs=ys) :
  Calls Tryz.prog 10 #[.slice A n c,.slice A2 m c2] w fun e w'=>e=.returned (.bool true)∧Below w.heap.size w w':=by
 refine(sameRef_any A A2 n c m c2 xs ys w h1 h2).mono ?_
 rintro e w' ⟨rfl,hb⟩
 exact⟨by rw[he];simp,hb⟩
theorem flowNets_walk (HRB:∀ F:Nat→Prop,RBuiltS F 2) (F:Nat→Prop) (A A1 A2:Option Addr) (n n1 n2 c c1 c2:Nat) (l:List Nd) (ss ask:List ByteArray) (w:World) (hl:NodsAt F w A n c l) (hs:LsAt F w 1 SRow A1 n1 c1 ss) (ha:LsAt F w 1 SRow A2 n2 c2 ask) :
  Calls Tryz.prog 3 #[.slice A n c,.slice A1 n1 c1,.slice A2 n2 c2] w fun e w'=>e=.returned (.bool true)∧Below w.heap.size w w':=by
 have hn1:=hs.n_le
 have hn2:=ha.n_le
 have Hcat:=Lhd (catalog_any F A1 A n1 c1 n c ss l w hl hs)
 have HS:=Lhd (fun W (hW:Below w.heap.size w W)=>hs.below hW)
 have HA:=Lhd (fun W (hW:Below w.heap.size w W)=>ha.below hW)
 have Hems:=Lhd (fun x hx=>(NodsAt.oks hl x hx).2.2)
 have Hsl:=Lhd hs.len
 have hcap:=RowsAt.cap (names_ls hs)
 have hcm:c1≤9223372036854775807:=by have h:=RowsAt.max (names_ls hs);unfold maxLen at h;omega
 clear hl hs ha
 go_enter Tryz.func3,Tryz.ntmps3
 go_wp2_with (fail)
 refine Hcat.out.mono ?_
 rintro e w4 ⟨hb4,A5,n5,c5,A6,n6,c6,q,rfl,hq1,hq2⟩
 unfold catV
 cases q with
 | false =>
  clear hq1 hq2
  go_wp2_with (go_at_call 6;refine(awakeT_any _).mono ?_;rintro e w5 ⟨rfl,hb5⟩)
  go_ret
  exact⟨rfl,hb4.trans ((((Below.refl _ w4).alloc (Nat.le_refl _) _).trans (hb5.mono (by simp))).mono hb4.size)⟩
 | true =>
  obtain⟨hC,hn6⟩:=hq1 rfl
  clear hq1 hq2
  by_cases h8:8<n2
  ·have d8:decide ((8:Int)<(n2:Int))=true:=by simp;omega
   clear hC
   go_wp2_with (go_at_call 6;refine(awakeT_any _).mono ?_;rintro e w5 ⟨rfl,hb5⟩)
   go_ret
   exact⟨rfl,hb4.trans ((((Below.refl _ w4).alloc (Nat.le_refl _) _).trans (hb5.mono (by simp))).mono hb4.size)⟩
  have d8:decide ((8:Int)<(n2:Int))=false:=by simp;omega
  have h8b:∀ x∈l,x.ems.length≤8:=fun x hx=>by
   have:=hC.bodies (prOf x) (List.mem_map_of_mem hx)
   have e:(prOf x).body=x.ems.map emSt:=rfl
   rwa [e,List.length_map] at this
  have hss:n1≤100:=by have h1:=hC.few1;have h2:=hC.streams.len;have h3:=Hsl.out;omega
  obtain⟨w5,Hw5⟩:∃ w5,Hid (w5=w4.alloc (.cells (catB A5 n5 c5 A6 n6 c6) 29)):=⟨_,rfl⟩
  have hb5:Below w4.heap.size w4 w5:=by rw[Hw5.out];exact(Below.refl _ _).alloc (Nat.le_refl _) _
  have hx5:IsBlk w5 w4.heap.size 29 (catB A5 n5 c5 A6 n6 c6):=by rw[Hw5.out];exact IsBlk.laid _ _ _
  have HX:=Lhd (fun W (hW:Below w5.heap.size w5 W)=>catCells (hx5.as_was (hW.block _ hx5.lt)))
  have HC:=Lhd (fun W (hW:Below w5.heap.size w5 W)=>(hC.below hb5).below hW)
  have hM12:=netC_few hC
  have hnd:((netC (l.map prOf)).map Stp.name).Nodup:=netOf_nodup _
  have HSt:=Lhd (stepsR_any HRB A5 A6 n5 c5 n6 c6 ss l w5 (HC.out w5 (Below.refl _ _)) h8b Hems.out)
  have HBo:=Lhd (fun W (hW:Below w5.heap.size w5 W)=>bordT_any A5 A6 n5 c5 n6 c6 ss (l.map prOf) W (HC.out W hW))
  have Hw05:=Lhd (hb4.trans (hb5.mono hb4.size))
  have HA5:=Lhd (fun W (hW:Below w5.heap.size w5 W)=>HA.out W (Hw05.out.trans (hW.mono Hw05.out.size)))
  have HS5:=Lhd (fun W (hW:Below w5.heap.size w5 W)=>HS.out W (Hw05.out.trans (hW.mono Hw05.out.size)))
  have HCo:=Lhd (fun W (hW:Below w5.heap.size w5 W)=>consT_any A5 A6 A2 n5 c5 n6 c6 n2 c2 ss (l.map prOf) F ask W (HC.out W hW) (HA5.out W hW))
  have HEm:=Lhd (fun W (hW:Below w5.heap.size w5 W)=>emitT_any A5 A6 A2 n5 c5 n6 c6 n2 c2 ss (l.map prOf) F ask W (HC.out W hW) (HA5.out W hW))
  have HRo:=Lhd (fun W (hW:Below w5.heap.size w5 W)=>roundT_any A5 A6 n5 c5 n6 c6 ss (l.map prOf) W (HC.out W hW))
  clear hC hx5 hb5 hb4 HC
  generalize netC (l.map prOf)=M at *
  have Hnd:=Lhd hnd
  have Hbord:=Lhd (bord_eq M ss)
  clear hnd
  obtain⟨z0,z1,z2,z3,z4,zl⟩:=HX.out w5 (Below.refl _ _)
  go_upto_region 4 with (fail)
  have hw5:w4.alloc (.cells #[.slice none 0 0,.slice A5 n5 c5,.slice none 0 0,.slice none 0 0,.slice A6 n6 c6] 29)=w5:=Hw5.out.symm
  rw[hw5]
  clear hw5
  go_wp2_with (go_at_call 7;refine HSt.out.mono ?_;rintro y w6 ⟨A7,n7,c7,rfl,hM7,hb6⟩)
  have hm7:n7≤12:=by have:=LsAt.len hM7;omega
  have HM:=Lhd (fun W (hW:Below w6.heap.size w6 W)=>hM7.below hW)
  have HB6:=Lhd hb6
  clear hM7
  go_loopw [10,11] (fun u10 i wr=>∃ k:Nat,k≤n1∧i=.int .i64 k∧OutIn w6 (bordR M (ss.take k)) u10 wr) (fun _ i _=>n1-(intOf i).toNat)
  case atStart=>exact⟨0,Nat.zero_le _,rfl,none,0,0,rfl,NamesAt.none_ (by unfold maxLen;omega),Below.refl _ _⟩
  case round =>
   generalize wr=w7 at *
   obtain⟨k,hk,rfl,A8,n8,c8,rfl,hN8,hB8⟩:=hrel
   have hl8:=hN8.len
   have hl9:=bordR_len M ss k
   rw[hl8,Hsl.out] at hl9
   have HN8:=Lhd hN8
   have HB8:=Lhd hB8
   have HB58:=Lhd (HB6.out.trans (hB8.mono HB6.out.size))
   clear hN8
   by_cases hlt:k<n1
   ·obtain⟨b,o,s,rfl,hbl,hx,oks,hc0⟩:=strAt (HS5.out w7 HB58.out) hlt
    have Hst:=Lhd (bordR_take (M:=M) hx)
    have Hem:=Lhd (emitR_any _ A7 (some ⟨b,o+k,none⟩) n7 c7 1 (c1-k) [s] w7 (HM.out w7 hB8) (names_at (names_ls (HS5.out w7 HB58.out)) hx) (by omega))
    clear hx hB8
    have HN8':=HN8.out
    by_cases h0:emitN M [s]=[]
    ·have H0:=Lhd h0
     clear h0 HN8'
     go_wp2_with (first
      | (go_at_call 8;refine Hem.out.mono ?_;rintro y w8 ⟨A9,n9,c9,rfl,hn9,hb8⟩;obtain rfl:n9=0:=(by rw[← hn9.len,emitR_eq Hnd.out,H0.out];rfl);have hc0':w8.cell? ⟨b,o+k,none⟩=some (.string s):=(hb8.cell hbl).trans hc0;have Hp:=Lhd (putF_any A8 n8 c8 _ s w8 (HN8.out.below hb8) (by omega));clear hn9)
      | (go_at_call 9;refine Hp.out.mono ?_;rintro y w9 ⟨A10,n10,c10,rfl,hn10,hb9,_⟩))
     go_roundw
     case rel=>exact⟨k+1,by omega,by go_num,_,_,_,rfl,by rw[Hst.out,H0.out];exact hn10,HB8.out.trans ((hb8.trans (hb9.mono hb8.size)).mono HB8.out.size)⟩
     case measure=>simp[intOf];omega
    ·have H0:=Lhd h0
     clear h0 HN8'
     go_wp2_with (first
      | (go_at_call 8;refine Hem.out.mono ?_;rintro y w8 ⟨A9,n9,c9,rfl,hn9,hb8⟩;have h90:((n9:Int)==0)=false:=(by rw[beq_eq_false_iff_ne];intro h;have h1:=hn9.len;rw[emitR_eq Hnd.out] at h1;exact H0.out (List.eq_nil_of_length_eq_zero (by omega)));clear hn9))
     go_roundw
     case rel=>exact⟨k+1,by omega,by go_num,_,_,_,rfl,by rw[Hst.out,decide_eq_false H0.out];exact HN8.out.below hb8,HB8.out.trans (hb8.mono HB8.out.size)⟩
     case measure=>simp[intOf];omega
   ·have e5:ss.take k=ss:=List.take_of_length_le (by rw[Hsl.out];omega)
    have h1:=HN8.out
    rw[e5] at h1
    have HNb:=Lhd h1
    obtain⟨rq,Hrq⟩:=round_bit M
    have HrqH:=Lhd Hrq
    clear h1 hB8 Hrq z0 z1 z2 z3 z4 zl HN8
    obtain⟨z0,z1,z2,z3,z4,zl⟩:=HX.out w7 HB58.out
    go_wp2_with (first
     | (go_at_call 11;refine(HBo.out _ HB58.out).mono ?_;rintro y w9 ⟨A9,c9,rfl,hn9,hb9⟩;have h59:Below w5.heap.size w5 w9:=HB58.out.trans (hb9.mono HB58.out.size);have Sa:=Lhd (same_eq hn9 (HNb.out.below hb9) Hbord.out);clear hn9)
     | (go_at_call 10;(with_reducible refine Sa.out.mono ?_);clear Sa;rintro y w10 ⟨rfl,hb10⟩;have h510:Below w5.heap.size w5 w10:=h59.trans (hb10.mono h59.size);obtain⟨z0,z1,z2,z3,z4,zl⟩:=HX.out w10 h510)
     | (go_at_call 12;refine(HCo.out _ h510).mono ?_;rintro y w11 ⟨A11,c11,rfl,hn11,hb11⟩;have Hn11:=Lhd hn11;clear hn11;have h511:Below w5.heap.size w5 w11:=h510.trans (hb11.mono h510.size);have h611:Below w6.heap.size w6 w11:=HB8.out.trans ((hb9.trans ((hb10.trans (hb11.mono hb10.size)).mono hb9.size)).mono HB8.out.size);have Hc11:=Lhd (consR_any _ A7 A2 n7 c7 n2 c2 ask w11 (HM.out w11 h611) (names_ls (HA5.out w11 h511)) (by omega)))
     | (go_at_call 13;refine Hc11.out.mono ?_;rintro y w12 ⟨A12,n12,c12,rfl,hn12,hb12⟩;have h512:Below w5.heap.size w5 w12:=h511.trans (hb12.mono h511.size);have Sb:=Lhd (same_eq (Hn11.out.below hb12) hn12 (consR_eq Hnd.out ask).symm);clear hn12)
     | (go_at_call 10;(with_reducible refine Sb.out.mono ?_);clear Sb;rintro y w13 ⟨rfl,hb13⟩;have h513:Below w5.heap.size w5 w13:=h512.trans (hb13.mono h512.size);obtain⟨z0,z1,z2,z3,z4,zl⟩:=HX.out w13 h513)
     | (go_at_call 14;refine(HEm.out _ h513).mono ?_;rintro y w14 ⟨A14,c14,rfl,hn14,hb14⟩;have Hn14:=Lhd hn14;clear hn14;have h514:Below w5.heap.size w5 w14:=h513.trans (hb14.mono h513.size);have h614:Below w6.heap.size w6 w14:=h611.trans ((hb12.trans ((hb13.trans (hb14.mono hb13.size)).mono hb12.size)).mono h611.size);have Hc14:=Lhd (emitR_any _ A7 A2 n7 c7 n2 c2 ask w14 (HM.out w14 h614) (names_ls (HA5.out w14 h514)) (by omega)))
     | (go_at_call 8;refine Hc14.out.mono ?_;rintro y w15 ⟨A15,n15,c15,rfl,hn15,hb15⟩;have h515:Below w5.heap.size w5 w15:=h514.trans (hb15.mono h514.size);have Sc:=Lhd (same_eq (Hn14.out.below hb15) hn15 (emitR_eq Hnd.out ask).symm);clear hn15)
     | (go_at_call 10;(with_reducible refine Sc.out.mono ?_);clear Sc;rintro y w16 ⟨rfl,hb16⟩;have h516:Below w5.heap.size w5 w16:=h515.trans (hb16.mono h515.size);obtain⟨z0,z1,z2,z3,z4,zl⟩:=HX.out w16 h516)
     | (go_at_call 15;refine(HRo.out _ h516).mono ?_;rintro y w17 ⟨q17,rfl,hq17,hb17⟩;have hqe:=HrqH.out.eq hq17;subst hqe;clear hq17;have h517:Below w5.heap.size w5 w17:=h516.trans (hb17.mono h516.size);have h617:Below w6.heap.size w6 w17:=h614.trans ((hb15.trans ((hb16.trans (hb17.mono hb16.size)).mono hb15.size)).mono h614.size);have Hr17:=Lhd (roundR_any Hnd.out _ A7 n7 c7 w17 (HM.out w17 h617) (by omega)))
     | (go_at_call 16;refine Hr17.out.mono ?_;rintro y w18 ⟨q18,rfl,hq18,hb18⟩;have hqe:=hq18.eq HrqH.out;subst hqe;clear hq18;have h518:Below w5.heap.size w5 w18:=h517.trans (hb18.mono h517.size);have hbq:(q17==q17)=true:=beq_self_eq_true q17)
     | (go_at_call 6;refine(awakeT_any _).mono ?_;rintro y w19 ⟨rfl,hb19⟩))
    all_goals
     go_ret
     exact⟨rfl,Hw05.out.trans ((h518.trans (hb19.mono h518.size)).mono Hw05.out.size)⟩
open Go.RowKit Go.Afx Go.ChangeShapes Go.WideShapes Go.Deep
section
variable {H:Type} {enc:TypeId×Value→H} {w:World} {base:Nat} {spare:Nat→Bool} {held:Bool}
theorem fieldsF {P:Program} {t:TypeId} {fs:Array Field} {fuel:Nat} {cs:List Value} {x:DataW H×List MemPlace} (ht:P.underlying t=some (.struct fs)) (h:DataW.trod enc P w base spare held fuel t cs=some x) :
  ∀ (i:Nat) (f:Field),fs[i]?=some f→∃ m y,DataW.trod enc P w base spare held m f.type ((cs.drop f.offset).take (P.cellsOf f.type))=some y:=by
 obtain⟨xs,n,_,_,_,hl,hf⟩:=DataW.trod_struct ht h
 intro i f hi
 have hlt:i<fs.size:=(Array.getElem?_eq_some_iff.1 hi).1
 exact⟨n,xs[i]'(by omega),by rw[hf i f hi];exact List.getElem?_eq_getElem _⟩
theorem sliceF {P:Program} {t e:TypeId} {fuel:Nat} {v:Value} {x:DataW H×List MemPlace} (ht:P.underlying t=some (.slice e)) (h:DataW.trod enc P w base spare held fuel t [v]=some x):∃ A n c,v=.slice A n c:=by
 rcases open_slice ht h with ⟨hcs,_⟩|⟨a,len,cap,m,q,D,Pl,hcs,_⟩
 ·simp only[List.cons.injEq,and_true] at hcs;exact⟨_,_,_,hcs⟩
 ·simp only[List.cons.injEq,and_true] at hcs;exact⟨_,_,_,hcs⟩
theorem strF {m:Nat} {v:Value} {y:DataW H×List MemPlace} (h:DataW.trod enc Tryz.prog w base spare held m 9 [v]=some y):∃ s,v=.string s∧okS s:=by
 obtain⟨s,hs,_,hk⟩:=DataW.trod_string Tryz.underlying9 h
 simp only[List.cons.injEq,and_true] at hs
 exact⟨s,hs,hk⟩
theorem boolF {m:Nat} {v:Value} {y:DataW H×List MemPlace} (h:DataW.trod enc Tryz.prog w base spare held m 4 [v]=some y):∃ q,v=.bool q:=by
 obtain⟨q,hs,_⟩:=DataW.trod_bool Tryz.underlying4 h
 simp only[List.cons.injEq,and_true] at hs
 exact⟨q,hs⟩
theorem strsF {m:Nat} {v:Value} {y:DataW H×List MemPlace} (h:DataW.trod enc Tryz.prog w base spare held m 23 [v]=some y):∃ A n c xs,v=.slice A n c∧LsAt (Old w) w 1 SRow A n c xs:=by
 obtain⟨A,n,c,rfl⟩:=sliceF Tryz.underlying23 h
 obtain⟨xs,hx⟩:=strs_of_trod Tryz.underlying23 Tryz.underlying9 (by kernel_rfl) h
 exact⟨A,n,c,xs,rfl,hx⟩
theorem cSF:Tryz.prog.cellsOf 9=1:=by kernel_rfl
theorem cBF:Tryz.prog.cellsOf 4=1:=by kernel_rfl
theorem cSsF:Tryz.prog.cellsOf 23=1:=by kernel_rfl
theorem node_of {m:Nat} {r:List Value} {y:DataW H×List MemPlace} (hl:r.length=4) (h:DataW.trod enc Tryz.prog w base spare held m 48 r=some y):∃ x:Nd,NodAt (Old w) w r x:=by
 obtain⟨a,b,c,d,rfl⟩:∃ a b c d,r=[a,b,c,d]:=by
  match r,hl with
  | [a,b,c,d],_=>exact⟨a,b,c,d,rfl⟩
 have hF:=fieldsF Tryz.underlying48 h
 obtain⟨m0,y0,h0⟩:=hF 0 _ rfl
 obtain⟨m1,y1,h1⟩:=hF 1 _ rfl
 obtain⟨m2,y2,h2⟩:=hF 2 _ rfl
 obtain⟨m3,y3,h3⟩:=hF 3 _ rfl
 replace h0:DataW.trod enc Tryz.prog w base spare held m0 9 (([a,b,c,d]:List Value).drop 0 |>.take (Tryz.prog.cellsOf 9))=some y0:=h0
 rw[cSF] at h0
 replace h1:DataW.trod enc Tryz.prog w base spare held m1 9 (([a,b,c,d]:List Value).drop 1 |>.take (Tryz.prog.cellsOf 9))=some y1:=h1
 rw[cSF] at h1
 replace h2:DataW.trod enc Tryz.prog w base spare held m2 23 (([a,b,c,d]:List Value).drop 2 |>.take (Tryz.prog.cellsOf 23))=some y2:=h2
 rw[cSsF] at h2
 replace h3:DataW.trod enc Tryz.prog w base spare held m3 4 (([a,b,c,d]:List Value).drop 3 |>.take (Tryz.prog.cellsOf 4))=some y3:=h3
 rw[cBF] at h3
 obtain⟨s0,rfl,k0⟩:=strF h0
 obtain⟨s1,rfl,k1⟩:=strF h1
 obtain⟨A2,n2,c2,l2,rfl,k2⟩:=strsF h2
 obtain⟨q,rfl⟩:=boolF h3
 exact⟨⟨s0,s1,l2,q⟩,k0,k1,A2,n2,c2,rfl,k2⟩
theorem nodes_of {m:Nat} {v:Value} {y:DataW H×List MemPlace} (h:DataW.trod enc Tryz.prog w base spare held m 22 [v]=some y):∃ A n c xs,v=.slice A n c∧NodsAt (Old w) w A n c xs:=by
 obtain⟨A,n,c,rfl⟩:=sliceF Tryz.underlying22 h
 obtain⟨xs,hx⟩:=ls_of_trod Tryz.underlying22 (by kernel_rfl) (by omega) (NodAt (Old w) w) (fun r m y hr hy=>node_of hr hy) h
 exact⟨A,n,c,xs,rfl,hx⟩
end
end Go.Proofs.YtomfpjgcficlgaaGreat
