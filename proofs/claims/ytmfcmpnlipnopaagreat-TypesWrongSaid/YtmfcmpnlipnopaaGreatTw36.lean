/- Parts of this proof, one behind the other: RefQ. -/
import Derived.Test.YtmfcmpnlipnopaaGreatTw33
import Derived.Test.YtmfcmpnlipnopaaGreatTw25
import Derived.Test.YtmfcmpnlipnopaaGreatTw30
import Derived.Test.YtmfcmpnlipnopaaGreatTw23
import Derived.Test.YtmfcmpnlipnopaaGreatTw34
import Derived.Test.YtmfcmpnlipnopaaGreatTw35
import Derived.Deep.DeepCutAuto
import Derived.Deep.CutBlock
import Derived.Outline
set_option maxRecDepth 1000000
set_option maxHeartbeats 40000000
namespace Go.Proofs.YtmfcmpnlipnopaaGreat
open Go.RowKit Go.Afx
def GivesOf (w:World) (e:Ending) (w':World):Prop :=
 ∃ (nm sr pt:ByteArray) (fu:Int) (Ap:Option Addr) (np cp:Nat) (Ab:Option Addr) (nb cb:Nat) (n d:Int) (r ok:Bool),
  e=.returned (.tuple #[.agg #[.string nm,.string sr,.string pt,.int .i64 fu,.slice Ap np cp,.slice Ab nb cb],.int .i64 n,.int .i64 d,.bool r,.bool ok])∧Below w.heap.size w w' ∧
  (ok=true→∃ p:Pr,PrAt (fun b=>b<w'.heap.size) 101 w' [.string nm,.string sr,.string pt,.int .i64 fu,.slice Ap np cp,.slice Ab nb cb] p∧(n,d)=tellP p∧r=rightB 101 p∧p.params.length≤12∧p.body.length≤12)
def MuchQ (np nk:Nat) (w1:World) (u:Value) (W:World):Prop:=∃ b:Bool,u=.bool b∧(b=false→np≤12∧nk≤12)∧w1=W
theorem sayBox {w:World} {g:Nat} {T:TypeId} {v0 v1 v2 v3 v4 v5 v6 v7:Value} (h:IsBlk w g T #[v0,v1,v2,v3,v4,v5,v6,v7]) :
  w.cell? ⟨g,0,none⟩=some v0∧w.cell? ⟨g,1,none⟩=some v1∧w.cell? ⟨g,2,none⟩=some v2∧w.cell? ⟨g,3,none⟩=some v3∧w.cell? ⟨g,4,none⟩=some v4∧w.cell? ⟨g,5,none⟩=some v5∧w.cell? ⟨g,6,none⟩=some v6∧w.cell? ⟨g,7,none⟩=some v7∧g<w.heap.size:=by
 have h0:=h.cell 0;have h1:=h.cell 1;have h2:=h.cell 2;have h3:=h.cell 3;have h4:=h.cell 4;have h5:=h.cell 5;have h6:=h.cell 6;have h7:=h.cell 7
 simp at h0 h1 h2 h3 h4 h5 h6 h7
 exact⟨h0,h1,h2,h3,h4,h5,h6,h7,h.lt⟩
structure OfIn (w w4 wr:World) (name src part:ByteArray) (fuel:Int) (Ap:Option Addr) (np cp:Nat) (body:List St) (Bb:Option Addr) (db:Nat):Prop where
 box:IsBlk wr (w.heap.size+1+1) 36 #[.string name,.string src,.string part,.int .i64 fuel,.slice Ap np cp,.slice Bb body.length db]
 bod:OwnK w4.heap.size wr 65 8 (StAt (fun b=>b<w4.heap.size∧b≠w.heap.size+1+1∧b≠w.heap.size+1) 101 w4) body Bb db
 but:But (fun b=>b=w.heap.size+1+1) w4 wr
theorem OfIn.start {w w4:World} {name src part:ByteArray} {fuel:Int} {Ap:Option Addr} {np cp:Nat} (h:IsBlk w4 (w.heap.size+1+1) 36 #[.string name,.string src,.string part,.int .i64 fuel,.slice Ap np cp,.slice none 0 0]):OfIn w w4 w4 name src part fuel Ap np cp [] none 0 :=
 ⟨h,OwnK.nil_ _ _ _ _ _,But.refl _ _⟩
theorem OfIn.drewN {w w4 wr:World} {name src part:ByteArray} {fuel:Int} {Ap:Option Addr} {np cp:Nat} {body:List St} {Bb:Option Addr} {db:Nat} (h:OfIn w w4 wr name src part fuel Ap np cp body Bb db) (a:Nat):OfIn w w4 (wr.drewN a) name src part fuel Ap np cp body Bb db:=⟨h.box,h.bod,h.but.drewN a⟩
theorem OfIn.add {w w4 wr w3:World} {name src part:ByteArray} {fuel:Int} {Ap:Option Addr} {np cp mB:Nat} {body:List St} {Bb A3:Option Addr} {db c3:Nat} {rows:List (List Value)} {re:List Value} {a:St} {o:Obj} (h:OfIn w w4 wr name src part fuel Ap np cp body Bb db) (hm:body.length=mB) (hg:w.heap.size+1+1<w4.heap.size)
    (hrl:rows.length=body.length) (hrw:∀ r∈rows,r.length=8) (hrP:∀ (j:Nat) (r:List Value) (e:St),rows[j]?=some r→body[j]?=some e→StAt (fun b=>b<w4.heap.size∧b≠w.heap.size+1+1∧b≠w.heap.size+1) 101 w4 r e) (hre:re.length=8) (hra:StAt (fun b=>b<w4.heap.size∧b≠w.heap.size+1+1∧b≠w.heap.size+1) 101 w4 re a)
    (hown3:w3.ownsRow w4.heap.size 65 8 (.slice A3 (mB+1) c3) (mB+1) (rows++[re]).flatten) (hbut3:But (fun k=>Bb.map (·.block)=some k) ((wr.drew).alloc o) w3) (hf3:∀ a2,A3=some a2→Bb=some a2∨((wr.drew).alloc o).heap.size≤a2.block) :
    OfIn w w4 (w3.setCell ⟨w.heap.size+1+1,5,none⟩ (.slice A3 (mB+1) c3)) name src part fuel Ap np cp (body++[a]) A3 c3:=by
  have hl:(body++[a]).length=mB+1:=by simp[hm]
  have hz:=h.but.size
  have hlo:=h.bod.lo
  have hg3:¬ Bb.map (·.block)=some (w.heap.size+1+1):=fun e=>by
    cases Bb with
    | none=>cases e
    | some a1 => have:=(hlo a1 rfl).1;have e:a1.block=w.heap.size+1+1:=by simpa using e
                 omega
  have hgb:But (fun b=>Bb.map (·.block)=some b∨b=w.heap.size+1+1) wr (w3.setCell ⟨w.heap.size+1+1,5,none⟩ (.slice A3 (mB+1) c3)):=(grown_apart (w2:=w4) (j:=5) (u:=.slice A3 (mB+1) c3) (B:=none) hlo (fun b hb=>by cases hb) (.inl (apart_none _)) hg hbut3 hf3).1
  have hbx:IsBlk (w3.setCell ⟨w.heap.size+1+1,5,none⟩ (.slice A3 (mB+1) c3)) (w.heap.size+1+1) 36 _:=(((show IsBlk wr.drew (w.heap.size+1+1) _ _ from h.box).alloc o).as_was (hbut3.block (w.heap.size+1+1) (by have:=h.box.lt;simp;omega) hg3)).stored 5 (.slice A3 (mB+1) c3)
  have hown:OwnK w4.heap.size (w3.setCell ⟨w.heap.size+1+1,5,none⟩ (.slice A3 (mB+1) c3)) 65 8 (StAt (fun b=>b<w4.heap.size∧b≠w.heap.size+1+1∧b≠w.heap.size+1) 101 w4) (body++[a]) A3 c3 :=
    (OwnK.add hrl hrw hrP hre hra hm hown3).keep ((But.refl (fun b=>b=w.heap.size+1+1) w3).setCell (p:=⟨w.heap.size+1+1,5,none⟩) (.inl rfl) _) fun a3 ha e=>by
      rcases hf3 a3 ha with h1|h1
      · have:=(hlo a3 h1).1;omega
      · simp at h1;omega
  have hbut : But (fun b=>b=w.heap.size+1+1) w4 (w3.setCell ⟨w.heap.size+1+1,5,none⟩ (.slice A3 (mB+1) c3)):=h.but.trans hgb fun i hi=>by
    rcases hi with hi|hi
    · cases Bb with
      | none=>cases hi
      | some a1 => have:=(hlo a1 rfl).1;have e:a1.block=i:=by simpa using hi
                   exact .inr (by omega)
    · exact .inl hi
  exact⟨by rw[hl];exact hbx,hown,hbut⟩
def OfEnd (w w4:World) (name src part:ByteArray) (fuel:Int) (Ap:Option Addr) (np cp:Nat) (a9 a10:Value) (wr:World):Prop :=
 ∃ (body:List St) (Bb:Option Addr) (db:Nat),body.length≤12∧a9=.int .i64 (sumT (body.map tellS))∧a10=.int .i64 (top0 (body.map tellS))∧OfIn w w4 wr name src part fuel Ap np cp body Bb db
def OfRel (w w4:World) (name src part:ByteArray) (fuel:Int) (Ap:Option Addr) (np cp nk:Nat) (a9 a10 a11:Value) (wr:World):Prop :=
 ∃ (q:Nat) (body:List St) (Bb:Option Addr) (db:Nat),q≤nk∧body.length≤q∧a9=.int .i64 (sumT (body.map tellS))∧a10=.int .i64 (top0 (body.map tellS))∧a11=.int .i64 q∧OfIn w w4 wr name src part fuel Ap np cp body Bb db
theorem LfAt.below {F:Nat→Prop} {w w':World} {r:List Value} {x:Lf} (h:LfAt F w r x) (hb:Below w.heap.size w w'):LfAt F w' r x:=by
 obtain⟨h1,h2,h3,h4,h5,A,m,c,hr,hl⟩:=h
 exact⟨h1,h2,h3,h4,h5,A,m,c,hr,hl.below hb⟩
theorem KnAt.below {F:Nat→Prop} {w w':World} {r:List Value} {x:Kn} (h:KnAt F w r x) (hb:Below w.heap.size w w'):KnAt F w' r x:=by
 obtain⟨h1,h2,h3,h4,Ac,nc,cc,Ae,ne,ce,Ab,nb,cb,Al,nl,cl,hr,k1,k2,k3,k4⟩:=h
 exact⟨h1,h2,h3,h4,Ac,nc,cc,Ae,ne,ce,Ab,nb,cb,Al,nl,cl,hr,k1.below hb,k2.below hb,k3.below hb,k4.below hb⟩
theorem of_any (HRB:∀ F:Nat→Prop,RBuiltS F 101) (F:Nat→Prop) (name src part:ByteArray) (fuel:Int) (Ap:Option Addr) (np cp:Nat) (params:List Co) (A A':Option Addr) (n c n' c':Nat) (xs:List Lf) (ys:List Kn) (Ak:Option Addr) (nk ck:Nat) (ks:List Int) (w:World)
  (hp:LsAt F w 2 CoRow Ap np cp params) (h1:LsAt F w 6 (LfAt F w) A n c xs) (h2:LsAt F w 8 (KnAt F w) A' n' c' ys) (hks:LsAt F w 1 IRow Ak nk ck ks) (hF:∀ k,F k→k<w.heap.size) (okn:okS name) (oks:okS src) (okp:okS part) (okf:okI fuel) :
  Calls Tryz.prog 5 #[.agg #[.string name,.string src,.string part,.int .i64 fuel,.slice Ap np cp,.slice A n c,.slice A' n' c',.slice Ak nk ck]] w (GivesOf w):=by
 have hnp:=hp.n_le
 have hnk:=hks.n_le
 obtain⟨w1,Hw1⟩:∃ w1,Hid (w1=((w.alloc (.cells #[.string name,.string src,.string part,.int .i64 fuel,.slice Ap np cp,.slice A n c,.slice A' n' c',.slice Ak nk ck] 33)).alloc (.cells #[.string { data:=#[] },.string { data:=#[] },.string { data:=#[] },.int .i64 0,.slice none 0 0,.slice none 0 0] 36)).alloc (.cells #[.string name,.string src,.string part,.int .i64 fuel,.slice Ap np cp,.slice none 0 0] 36)):=⟨_,rfl⟩
 have hb1:Below w.heap.size w w1:=by rw[Hw1.out];exact(((Below.refl _ _).alloc (Nat.le_refl _) _).alloc (by simp) _).alloc (by simp;omega) _
 have hz1:w1.heap.size=w.heap.size+3:=by rw[Hw1.out];simp
 have hs1:IsBlk w1 w.heap.size 33 #[.string name,.string src,.string part,.int .i64 fuel,.slice Ap np cp,.slice A n c,.slice A' n' c',.slice Ak nk ck]:=by rw[Hw1.out];exact((IsBlk.laid _ _ _).alloc _).alloc _
 have hr1:IsBlk w1 (w.heap.size+1) 36 #[.string { data:=#[] },.string { data:=#[] },.string { data:=#[] },.int .i64 0,.slice none 0 0,.slice none 0 0]:=by rw[Hw1.out];exact(laid_at (by simp) _ _).alloc _
 have hq1:IsBlk w1 (w.heap.size+1+1) 36 #[.string name,.string src,.string part,.int .i64 fuel,.slice Ap np cp,.slice none 0 0]:=by rw[Hw1.out];exact laid_at (by simp) _ _
 have HG:=Lhd (fun W (hW:Below w.heap.size w W)=>great_any F A A' n c n' c' xs ys W (h1.conv (Kept.of_below hW) (fun _ _ _ h=>h) (fun r x _ hx=>LfAt.below hx hW)) (h2.conv (Kept.of_below hW) (fun _ _ _ h=>h) (fun r x _ hx=>KnAt.below hx hW)))
 have HBd:=Lhd (fun W (hW:Below w.heap.size w W)=>build_any F A A' n c n' c' xs ys W (h1.conv (Kept.of_below hW) (fun _ _ _ h=>h) (fun r x _ hx=>LfAt.below hx hW)) (h2.conv (Kept.of_below hW) (fun _ _ _ h=>h) (fun r x _ hx=>KnAt.below hx hW)) (fun k hk=>Nat.lt_of_lt_of_le (hF k hk) hW.size))
 have Hp:=Lhd hp
 have H1:=Lhd h1
 have H2:=Lhd h2
 have Hks:=Lhd hks
 have Hs1:=Lhd hs1
 have Hr1:=Lhd hr1
 have Hq1:=Lhd hq1
 have Hb1:=Lhd hb1
 obtain⟨s0,s1,s2,s3,s4,s5,s6,s7,sl⟩:=sayBox hs1
 obtain⟨p0,p1,p2,p3,p4,p5,pl⟩:=treeBox hq1
 clear hp h1 h2 hks hs1 hr1 hq1 hb1
 unfold okS at okn oks okp
 go_enter Tryz.func5,Tryz.ntmps5
 go_upto_region 2 with (fail)
 rw[← Hw1.out]
 go_cut [58] (fun u W=>MuchQ np nk w1 u W)
 case first =>
  by_cases hnp:np≤12
  ·by_cases hnk:nk≤12
   ·have HR:Hid (np≤12∧nk≤12):=Lhd ⟨hnp,hnk⟩
    have e1:¬ (12:Int)<(np:Int):=by omega
    have e2:¬ (12:Int)<(nk:Int):=by omega
    go_wp2_with (go_at_call 12;refine(HG.out _ Hb1.out).mono ?_;rintro e w' ⟨b,rfl,rfl⟩;cases b)
    all_goals
     go_meet
     exact⟨_,rfl,fun _=>HR.out,rfl⟩
   ·have e1:¬ (12:Int)<(np:Int):=by omega
    have e2:(12:Int)<(nk:Int):=by omega
    go_wp2_with (go_at_call 12;refine(HG.out _ Hb1.out).mono ?_;rintro e w' ⟨b,rfl,rfl⟩;cases b)
    all_goals
     go_meet
     exact⟨_,rfl,(fun h=>by cases h),rfl⟩
  ·have e1:(12:Int)<(np:Int):=by omega
   go_wp2_with (go_at_call 12;refine(HG.out _ Hb1.out).mono ?_;rintro e w' ⟨b,rfl,rfl⟩;cases b)
   all_goals
    go_meet
    exact⟨_,rfl,(fun h=>by cases h),rfl⟩
 case rest =>
  obtain⟨b,rfl,hbd,rfl⟩:=hcut
  obtain⟨r0,r1,r2,r3,r4,r5,rl⟩:=treeBox Hr1.out
  have rf:=Hr1.out.frozen
  cases b
  rotate_left
  ·clear hbd
   go_wp2
   refine bodyPost_ret (v:=.tuple #[.agg #[.string name,.string src,.string part,.int .i64 fuel,.slice Ap np cp,.slice none 0 0],.int .i64 0,.int .i64 0,.bool false,.bool false]) (by simp[results,Tryz.results5,go_sem,r0,r1,r2,r3,r4,r5]) rfl ⟨name,src,part,fuel,Ap,np,cp,none,0,0,0,0,false,false,rfl,?_,fun h=>by cases h⟩
   exact Hb1.out.trans ((But.below' (but_six w1 (w.heap.size+1) _ _ _ _ _ _) Hb1.out.size (fun b e=>by rw[e];omega)))
  ·obtain⟨hnp12,hnk12⟩:=hbd rfl
   clear hbd r0 r1 r2 r3 r4 r5 rl rf
   go_upto_region 5 with (go_at_call 13;refine(HBd.out _ Hb1.out).mono ?_;rintro e w3 ⟨row,es,ss,rfl,⟨A0,c0,A1,c1,A2,c2,A3,c3,A4,c4,A5,c5,rfl,te,tn,td,ts,tm,tdp,hes50,hss50⟩,hb3⟩;clear te tn td)
   obtain⟨w4,Hw4⟩:∃ w4,Hid (w4=w3.alloc (.cells #[.slice A0 es.length c0,.slice A1 es.length c1,.slice A2 es.length c2,.slice A3 ss.length c3,.slice A4 ss.length c4,.slice A5 ss.length c5] 61)):=⟨_,rfl⟩
   rw[← Hw4.out]
   have hb34:Below w3.heap.size w3 w4:=by rw[Hw4.out];exact(Below.refl _ _).alloc (Nat.le_refl _) _
   have hz4:w4.heap.size=w3.heap.size+1:=by rw[Hw4.out];simp
   have ht4:IsBlk w4 w3.heap.size 61 #[.slice A0 es.length c0,.slice A1 es.length c1,.slice A2 es.length c2,.slice A3 ss.length c3,.slice A4 ss.length c4,.slice A5 ss.length c5]:=by rw[Hw4.out];exact IsBlk.laid _ _ _
   have hb14:Below w1.heap.size w1 w4:=hb3.trans (hb34.mono hb3.size)
   have Hq4:=Lhd (Hq1.out.as_was (hb14.block _ Hq1.out.lt))
   have Hs4:=Lhd (Hs1.out.as_was (hb14.block _ Hs1.out.lt))
   have Hr4:=Lhd (Hr1.out.as_was (hb14.block _ Hr1.out.lt))
   have hz34:=hb3.size
   have hFQ:∀ b,(b<w3.heap.size∧(b<w1.heap.size→F b))→(b<w4.heap.size∧b≠w.heap.size+1+1∧b≠w.heap.size+1):=fun b hb=>⟨by omega,(fun e=>by
    have:=hF b (hb.2 (by omega))
    omega),(fun e=>by
    have:=hF b (hb.2 (by omega))
    omega)⟩
   have Hts:=Lhd (StsAt.conv hFQ (Kept.of_below hb34) (Nat.le_refl _) ts)
   have Htm:=Lhd (LsAt.conv (F':=fun b=>b<w4.heap.size∧b≠w.heap.size+1+1∧b≠w.heap.size+1) tm (Kept.of_below hb34) (fun a _ _ h=>hFQ _ h) (fun _ _ _ h=>h))
   have Htd:=Lhd (LsAt.conv (F':=fun b=>b<w4.heap.size∧b≠w.heap.size+1+1∧b≠w.heap.size+1) tdp (Kept.of_below hb34) (fun a _ _ h=>hFQ _ h) (fun _ _ _ h=>h))
   have Hb04:=Lhd (Hb1.out.trans (hb14.mono Hb1.out.size))
   have Hk4:=Lhd (Hks.out.below (Hb1.out.trans (hb14.mono Hb1.out.size)))
   generalize hm:ss.length=m at *
   have Hm:=Lhd hm
   generalize es.length=nes at *
   have Ht4:=Lhd ht4
   clear hm ts tm tdp ht4 hFQ s0 s1 s2 s3 s4 s5 s6 s7 sl p0 p1 p2 p3 p4 p5 pl
   have HE4:=Lhd (OfIn.start (w:=w) (src:=src) (part:=part) (fuel:=fuel) Hq4.out)
   have HX4:=Lhd (fun W (hW:But (fun b=>b=w.heap.size+1+1) w4 W)=>And.intro (sayBox (Hs4.out.as_was (hW.block _ Hs4.out.lt (by omega)))) (treeBox (Ht4.out.as_was (hW.block _ Ht4.out.lt (by omega)))))
   go_upto_block 0 with (fail)
   go_cut [9,10] (fun u9 u10 W=>OfEnd w w4 name src part fuel Ap np cp u9 u10 W)
   case first =>
    go_wp2_with fail
    go_loopw [9,10,11] (fun a9 a10 a11 wr=>OfRel w w4 name src part fuel Ap np cp nk a9 a10 a11 wr) (fun _ _ i _=>nk-(intOf i).toNat)
    case atStart=>exact⟨0,[],_,_,Nat.zero_le _,Nat.le_refl _,rfl,rfl,rfl,HE4.out⟩
    case round =>
     obtain⟨q,body,Bb,db,hq,hal,rfl,rfl,rfl,hE⟩:=hrel
     have HE:=Lhd hE
     have hsb:=sumT_bd (l:=body.map tellS) (fun t ht=>by obtain⟨a,_,rfl⟩:=List.mem_map.1 ht;exact tellS_ok a)
     have htb:=top0_bd (l:=body.map tellS) (fun t ht=>by obtain⟨a,_,rfl⟩:=List.mem_map.1 ht;exact tellS_ok a)
     rw[List.length_map] at hsb
     obtain⟨hsum,htop,hs2,ht2,Hsum,Htop⟩:∃ hsum htop:Int,(0≤hsum∧hsum≤12000)∧(0≤htop∧htop≤1000)∧Hid (sumT (body.map tellS)=hsum)∧Hid (top0 (body.map tellS)=htop):=⟨_,_,by omega,htb,rfl,rfl⟩
     obtain⟨hs0,hs1⟩:=hs2
     obtain⟨ht0,ht1⟩:=ht2
     clear hsb htb
     rw[Hsum.out,Htop.out]
     generalize hmb:body.length=mB at *
     have Hmb:=Lhd hmb
     clear hmb hE
     obtain⟨⟨s0,s1,s2,s3,s4,s5,s6,s7,sl⟩,t0,t1,t2,t3,t4,t5,tl⟩:=HX4.out wr HE.out.but
     by_cases hlt:q<nk∧0<m
     ·obtain⟨hqk,hm0⟩:=hlt
      have d1:decide ((q:Int)<(nk:Int))=true:=by simp;omega
      have d2:decide ((0:Int)<(m:Int))=true:=by simp;omega
      obtain⟨bk,ok,rk,v,rfl,hbk,_,_,_,hv,hcv⟩:=(Hk4.out.kept (Kept.of_but HE.out.but (fun b hb=>by have:=hF b hb;omega))).get hqk
      obtain⟨rfl,okv⟩:=hv
      have hcv:=hcv 0 _ rfl
      rw[Nat.mul_one,Nat.add_zero] at hcv
      go_wp2
      go_quiet (fail)
      go_wp2
      rw[pick_int v m hm0 (by omega)]
      obtain⟨j,Hj⟩:∃ j,Hid (pickN v m=j):=⟨_,rfl⟩
      have hjm:j<m:=by rw[← Hj.out];exact pickN_lt v m hm0
      rw[Hj.out]
      have HEq:=Lhd (HE.out.drewN nq)
      obtain⟨b0,o0,re,a,rfl,hb0,hF0,haj,hrl2,hpa,hca⟩:=LsAt.get Hts.out (k:=j) hjm
      obtain⟨p1,p2,p3,p4,Ac2,nc2,cc2,Ae2,ne2,ce2,Ab2,nb2,cb2,Al2,nl2,cl2,rfl,h6⟩:=hpa
      have Hpa:Hid (StAt (fun b=>b<w4.heap.size∧b≠w.heap.size+1+1∧b≠w.heap.size+1) 101 w4 [.int .i64 a.op,.string a.name,.string a.src,.int .i64 a.n,.slice Ac2 nc2 cc2,.slice Ae2 ne2 ce2,.slice Ab2 nb2 cb2,.slice Al2 nl2 cl2] a):=Lhd ⟨p1,p2,p3,p4,Ac2,nc2,cc2,Ae2,ne2,ce2,Ab2,nb2,cb2,Al2,nl2,cl2,rfl,h6⟩
      clear h6
      obtain⟨b1,oo1,r1,y1,rfl,hb1',hF1,hy1,_,hr1,hcn⟩:=Htm.out.get (k:=j) hjm
      obtain⟨b2,oo2,r2,y2,rfl,hb2',hF2,hy2,_,hr2,hcd⟩:=Htd.out.get (k:=j) hjm
      obtain⟨rfl,_⟩:=hr1
      obtain⟨rfl,_⟩:=hr2
      rw[List.getElem?_map,haj] at hy1 hy2
      injection hy1 with hy1
      injection hy2 with hy2
      subst hy1 hy2
      have hcn:=hcn 0 _ rfl
      have hcd:=hcd 0 _ rfl
      rw[Nat.mul_one,Nat.add_zero] at hcn hcd
      have hR:=fun b (hb:b<w4.heap.size∧b≠w.heap.size+1+1∧b≠w.heap.size+1) i=>World.cell?_of_block (a:=⟨b,i,none⟩) (HE.out.but.block b hb.1 hb.2.1)
      have e0:(wr.drewN nq).cell? ⟨b0,o0+j*8,none⟩=some (.int .i64 a.op):=by have h:=(hR b0 hF0 _).trans (hca 0 _ rfl);rw[Nat.add_zero] at h;exact h
      have e1:(wr.drewN nq).cell? ⟨b0,o0+j*8+1,none⟩=some (.string a.name):=(hR b0 hF0 _).trans (hca 1 _ rfl)
      have e2:(wr.drewN nq).cell? ⟨b0,o0+j*8+2,none⟩=some (.string a.src):=(hR b0 hF0 _).trans (hca 2 _ rfl)
      have e3:(wr.drewN nq).cell? ⟨b0,o0+j*8+3,none⟩=some (.int .i64 a.n):=(hR b0 hF0 _).trans (hca 3 _ rfl)
      have e4:(wr.drewN nq).cell? ⟨b0,o0+j*8+4,none⟩=some (.slice Ac2 nc2 cc2):=(hR b0 hF0 _).trans (hca 4 _ rfl)
      have e5:(wr.drewN nq).cell? ⟨b0,o0+j*8+5,none⟩=some (.slice Ae2 ne2 ce2):=(hR b0 hF0 _).trans (hca 5 _ rfl)
      have e6:(wr.drewN nq).cell? ⟨b0,o0+j*8+6,none⟩=some (.slice Ab2 nb2 cb2):=(hR b0 hF0 _).trans (hca 6 _ rfl)
      have e7:(wr.drewN nq).cell? ⟨b0,o0+j*8+7,none⟩=some (.slice Al2 nl2 cl2):=(hR b0 hF0 _).trans (hca 7 _ rfl)
      have f1:(wr.drewN nq).cell? ⟨b1,oo1+j,none⟩=some (.int .i64 (tellS a).1):=(hR b1 hF1 _).trans hcn
      have f2:(wr.drewN nq).cell? ⟨b2,oo2+j,none⟩=some (.int .i64 (tellS a).2):=(hR b2 hF2 _).trans hcd
      obtain⟨y0,y1,y2,y3,y4,y5,yl⟩:=treeBox HE.out.box
      rw[Hmb.out] at y5
      replace y5:(wr.drewN nq).cell? ⟨w.heap.size+1+1,5,none⟩=some (.slice Bb mB db):=y5
      replace yl:w.heap.size+1+1<(wr.drewN nq).heap.size:=yl
      replace t3:(wr.drewN nq).cell? ⟨w3.heap.size,3,none⟩=some (.slice (some ⟨b0,o0,none⟩) m c3):=t3
      replace t4:(wr.drewN nq).cell? ⟨w3.heap.size,4,none⟩=some (.slice (some ⟨b1,oo1,none⟩) m c4):=t4
      replace t5:(wr.drewN nq).cell? ⟨w3.heap.size,5,none⟩=some (.slice (some ⟨b2,oo2,none⟩) m c5):=t5
      replace tl:w3.heap.size<(wr.drewN nq).heap.size:=tl
      clear hR hca hcn hcd
      generalize wr.drewN nq=W5 at *
      obtain⟨rows,hown,hrlen,hrwid,hrP⟩:=HEq.out.bod
      rw[Hmb.out] at hown
      have HrP:=Lhd hrP
      have Hrw:=Lhd hrwid
      have Hrl:=Lhd hrlen
      clear hrP hrwid hrlen
      have hg2:=HEq.out.but.size
      have hfz:=HEq.out.box.frozen
      have hp4:w.heap.size+1+1<w3.heap.size:=by have:=Hq1.out.lt;omega
      have hownA:(W5.drew.alloc (.cells #[.int .i64 a.op,.string a.name,.string a.src,.int .i64 a.n,.slice Ac2 nc2 cc2,.slice Ae2 ne2 ce2,.slice Ab2 nb2 cb2,.slice Al2 nl2 cl2] 65)).ownsRow w4.heap.size 65 8 (.slice Bb mB db) mB rows.flatten:=World.ownsRow.alloc (show W5.drew.ownsRow w4.heap.size 65 8 (.slice Bb mB db) mB rows.flatten from hown) _
      have hnewA:RowsAt (W5.drew.alloc (.cells #[.int .i64 a.op,.string a.name,.string a.src,.int .i64 a.n,.slice Ac2 nc2 cc2,.slice Ae2 ne2 ce2,.slice Ab2 nb2 cb2,.slice Al2 nl2 cl2] 65)) 8 (some ⟨W5.heap.size,0,none⟩) 1 1 [[.int .i64 a.op,.string a.name,.string a.src,.int .i64 a.n,.slice Ac2 nc2 cc2,.slice Ae2 ne2 ce2,.slice Ab2 nb2 cb2,.slice Al2 nl2 cl2]]:=RowsAt.lit' _ _ 1 (by rfl) rfl (by simp) rfl (by unfold maxLen;omega)
      have hm1:mB+1≤maxLen:=by unfold maxLen;omega
      have hm2:(mB+1)*144≤140737488355328:=by omega
      have hm3:w4.heap.size≤(W5.drew.alloc (.cells #[.int .i64 a.op,.string a.name,.string a.src,.int .i64 a.n,.slice Ac2 nc2 cc2,.slice Ae2 ne2 ce2,.slice Ab2 nb2 cb2,.slice Al2 nl2 cl2] 65)).heap.size:=by simp;omega
      have hlo:=HEq.out.bod.lo
      have hAl:∀ b,b<w4.heap.size→¬ Bb.map (·.block)=some b:=by
       intro b hb e
       cases Bb with
       | none=>cases e
       | some a2 =>
        have h:=(hlo a2 rfl).1
        simp at e
        omega
      have HAl:=Lhd hAl
      clear hAl hlo
      have Hc3:=Lhd (fun (w6:World) (hb:But (fun k=>Bb.map (·.block)=some k) (W5.drew.alloc (.cells #[.int .i64 a.op,.string a.name,.string a.src,.int .i64 a.n,.slice Ac2 nc2 cc2,.slice Ae2 ne2 ce2,.slice Ab2 nb2 cb2,.slice Al2 nl2 cl2] 65)) w6) (b:Nat) (hb0:b<w4.heap.size) (i:Nat)=>(hb.cell (p:=⟨b,i,none⟩) (by simp;omega) (HAl.out b hb0)).trans (World.cell?_alloc_lt W5.drew _ ⟨b,i,none⟩ (show b<W5.heap.size by omega)))
      have Hf3:=Lhd (fun (w6:World) (hb:But (fun k=>Bb.map (·.block)=some k) (W5.drew.alloc (.cells #[.int .i64 a.op,.string a.name,.string a.src,.int .i64 a.n,.slice Ac2 nc2 cc2,.slice Ae2 ne2 ce2,.slice Ab2 nb2 cb2,.slice Al2 nl2 cl2] 65)) w6)=>(((show IsBlk W5.drew (w.heap.size+1+1) _ _ from HEq.out.box).alloc _).as_was (hb.block _ (by simp;omega) (HAl.out _ (by omega)))).frozen)
      have Hsn:=Lhd (sumT_snoc (body.map tellS) (tellS a))
      have Htn:=Lhd (top0_snoc (body.map tellS) (tellS a))
      have ⟨ta0,ta1,ta2,ta3⟩:=tellS_ok a
      generalize htl:tellS a=tl' at *
      have Htl:=Lhd htl
      clear htl
      have n0:w3.heap.size≠w.heap.size+1+1:=by omega
      have n1:b1≠w.heap.size+1+1:=hF1.2.1
      have n2:b2≠w.heap.size+1+1:=hF2.2.1
      have hl1:=hF1.1
      have hl2:=hF2.1
      go_region_law (refine stepApp (base:=w4.heap.size) (xs:=rows) (news:=[[.int .i64 a.op,.string a.name,.string a.src,.int .i64 a.n,.slice Ac2 nc2 cc2,.slice Ae2 ne2 ce2,.slice Ab2 nb2 cb2,.slice Al2 nl2 cl2]]) rfl rfl tyStm rfl hownA rfl hnewA (by simp) (by simp[Value.oneCell']) hm1 hm2 hm3 ?_;intro A6 c6 w6 hown6 hbut6 hf6;have hfz6:=Hf3.out w6 hbut6;have z0:=(Hc3.out w6 hbut6 _ (by omega) 5).trans y5)
      all_goals
       have z4:=(Hc3.out w6 hbut6 w3.heap.size (by omega) 4).trans t4
       have z5:=(Hc3.out w6 hbut6 w3.heap.size (by omega) 5).trans t5
       have z6:=(Hc3.out w6 hbut6 b1 hl1 (oo1+j)).trans f1
       have z7:=(Hc3.out w6 hbut6 b2 hl2 (oo2+j)).trans f2
       go_wp2
       all_goals
        go_roundw
        case rel =>
         have hA:=HEq.out.add Hmb.out (by omega) Hrl.out Hrw.out HrP.out rfl Hpa.out hown6 hbut6 hf6
         refine⟨q+1,body++[a],A6,c6,by omega,by rw[List.length_append,Hmb.out];simp<;>omega,?_,?_,by go_num,hA⟩
         ·rw[List.map_append,List.map_cons,List.map_nil,Htl.out,Hsn.out,Hsum.out]
         ·first|(rw[List.map_append,List.map_cons,List.map_nil,Htl.out,Htn.out,Htop.out];done)|(rw[List.map_append,List.map_cons,List.map_nil,Htl.out,Htn.out,Htop.out]<;>first|rw[ite_max]|exact congrArg (Value.int .i64) (by omega))
        case measure=>simp[intOf];omega
     ·have Hm9:=Lhd (And.intro Hsum.out Htop.out)
      go_wp2
      all_goals
       go_meet
       rw[← Hsum.out,← Htop.out]
       exact⟨body,Bb,db,by have:=Hmb.out;omega,rfl,rfl,HE.out⟩
   case rest =>
    obtain⟨body,Bb,db,hb12,rfl,rfl,hE⟩:=hcut
    have HE:=Lhd hE
    have Hb12:=Lhd hb12
    clear hE hb12
    generalize wc=W at *
    have hbut:=HE.out.but
    have hlow:Below w.heap.size w W:=Hb04.out.trans (hbut.below' Hb04.out.size (fun i e=>by omega))
    have hrs:=Hr4.out.as_was (hbut.block _ Hr4.out.lt (by omega))
    have hbs:StsAt (fun b=>b≠w.heap.size+1) 101 W Bb body.length db body:=HE.out.bod.ls (fun b hb=>by omega) (fun r x hx=>StAt.turn (fun b _ hb=>hb.2.2) (Kept.of_but hbut (fun b hb e=>hb.2.1 e)) 101 (Nat.le_refl _) hx)
    have HH:=Lhd (fun W' (hW:Below W.heap.size W W')=>rheads_any F name src part fuel Ap Bb np cp body.length db params W' (Hp.out.below (hlow.trans (hW.mono hlow.size))) okn oks)
    have HBk:=Lhd (fun W' (hW:Below W.heap.size W W')=>rblocks_any (fun b=>b≠w.heap.size+1) 101 (HRB _) Bb body.length db body W' (StsAt.below hbs hW))
    obtain⟨n5,d5,Hnd⟩:∃ n5 d5,Hid (toldZ (sumT (body.map tellS),top0 (body.map tellS))=(n5,d5)):=⟨_,_,rfl⟩
    have ht:Calls Tryz.prog 14 #[.int .i64 (sumT (body.map tellS)),.int .i64 (top0 (body.map tellS))] W fun x w'=>x=.returned (.tuple #[.int .i64 n5,.int .i64 d5])∧W=w':=by
     have h:=told2_any (sumT (body.map tellS)) (top0 (body.map tellS)) W
     rw[Hnd.out] at h
     exact h
    have Ht:=Lhd ht
    have Hrs:=Lhd hrs
    have Hbs:=Lhd hbs
    have Hlow:=Lhd hlow
    have Hbut:=Lhd hbut
    clear ht hrs hbs hlow hbut
    have Htell:Hid ((n5,d5)=tellP ⟨name,src,part,fuel,params,body⟩):=Lhd (by rw[← Hnd.out];exact tellP_body body name src part fuel params)
    clear Hnd
    generalize sumT (body.map tellS)=s9 at *
    generalize top0 (body.map tellS)=s10 at *
    go_upto_region 14 with (go_at_call 14;refine Ht.out.mono ?_;rintro x w' ⟨rfl,rfl⟩)
    refine Code.wp_mono noPanic_then (regionQ name src part fuel n5 d5 Ap Bb np cp body.length db _ _ w W HE.out.box Hrs.out HH.out HBk.out ?_)
    intro y3 y4 y5 y6 y125 y126 y127 y128 y129 y130 y131 y132 y133 y134 y135 y136 y137 y138 y139 y140 y141 y142 W0 hb0 h3 h4 h5 h6
    subst h3 h4 h5 h6
    have hbx0:=HE.out.box.as_was (hb0.block _ HE.out.box.lt)
    have hrs0:=Hrs.out.as_was (hb0.block _ Hrs.out.lt)
    have hbt:=but_six W0 (w.heap.size+1) (.string name) (.string src) (.string part) (.int .i64 fuel) (.slice Ap np cp) (.slice Bb body.length db)
    have hrow:IsBlk ((((((W0.setCell ⟨w.heap.size+1,0,none⟩ (.string name)).setCell ⟨w.heap.size+1,1,none⟩ (.string src)).setCell ⟨w.heap.size+1,2,none⟩ (.string part)).setCell ⟨w.heap.size+1,3,none⟩ (.int .i64 fuel)).setCell ⟨w.heap.size+1,4,none⟩ (.slice Ap np cp)).setCell ⟨w.heap.size+1,5,none⟩ (.slice Bb body.length db)) (w.heap.size+1) 36 #[.string name,.string src,.string part,.int .i64 fuel,.slice Ap np cp,.slice Bb body.length db]:=(((((hrs0.stored 0 (.string name)).stored 1 (.string src)).stored 2 (.string part)).stored 3 (.int .i64 fuel)).stored 4 (.slice Ap np cp)).stored 5 (.slice Bb body.length db)
    obtain⟨Wz,HWz⟩:∃ Wz,Hid (((((((W0.setCell ⟨w.heap.size+1,0,none⟩ (.string name)).setCell ⟨w.heap.size+1,1,none⟩ (.string src)).setCell ⟨w.heap.size+1,2,none⟩ (.string part)).setCell ⟨w.heap.size+1,3,none⟩ (.int .i64 fuel)).setCell ⟨w.heap.size+1,4,none⟩ (.slice Ap np cp)).setCell ⟨w.heap.size+1,5,none⟩ (.slice Bb body.length db))=Wz):=⟨_,rfl⟩
    rw[HWz.out] at hbt hrow ⊢
    obtain⟨r0,r1,r2,r3,r4,r5,rl⟩:=treeBox hrow
    have rf:=hrow.frozen
    have Hbt:=Lhd hbt
    have Hb0:=Lhd hb0
    have HkW:Hid (Kept (fun b=>b≠w.heap.size+1) W Wz):=Lhd ((Kept.of_below (F:=fun b=>b≠w.heap.size+1) hb0).trans (Kept.of_but hbt (fun b hb e=>hb e)))
    have HlW:Hid (Below w.heap.size w Wz):=Lhd ((Hlow.out.trans (hb0.mono Hlow.out.size)).trans (hbt.below' (Nat.le_trans Hlow.out.size hb0.size) (fun b e=>by omega)))
    have Hnp12:=Lhd hnp12
    clear hbx0 hrs0 hrow hbt hb0 hnp12 hnk12
    go_step
    go_wp2
    refine bodyPost_ret (v:=.tuple #[.agg #[.string name,.string src,.string part,.int .i64 fuel,.slice Ap np cp,.slice Bb body.length db],.int .i64 n5,.int .i64 d5,.bool (decide (n5≤300)&&decide (d5≤12)&&refH name src part fuel params&&body.all (builtS 101)),.bool true]) (by simp[results,Tryz.results5,go_sem,r0,r1,r2,r3,r4,r5]) rfl ⟨name,src,part,fuel,Ap,np,cp,Bb,body.length,db,n5,d5,_,true,rfl,HlW.out,fun _=>⟨⟨name,src,part,fuel,params,body⟩,⟨okn,oks,okp,okf,Ap,np,cp,Bb,body.length,db,rfl,?_,?_⟩,?_,?_,?_,Hb12.out⟩⟩
    ·have h:=Hp.out.below HlW.out
     exact h.conv (Kept.refl _ _) (fun a ha h0 _=>h.lt h0 a ha) (fun _ _ _ h=>h)
    ·exact StsAt.turn (fun k hk _=>Nat.lt_of_lt_of_le hk HkW.out.size) HkW.out (Nat.le_refl _) Hbs.out
    ·exact Htell.out
    ·have h1:=small_told ⟨name,src,part,fuel,params,body⟩
     rw[← Htell.out] at h1
     show _=(headsR name src part fuel params&&smallZ (sizeP 101 ⟨name,src,part,fuel,params,body⟩)&&body.all (builtS 101))
     rw[← h1,refH_heads]
     cases headsR name src part fuel params<;>cases decide (n5≤300)<;>cases decide (d5≤12)<;>rfl
    ·rw[Hp.out.len];exact Hnp12.out
end Go.Proofs.YtmfcmpnlipnopaaGreat
