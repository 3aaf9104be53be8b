/- Parts of this proof, one behind the other: SynW, SynY, SynZ, SynZ1. -/
import Derived.Test.YtomfpjgcficlgaaGreatFn10
import Derived.Test.YtomfpjgcficlgaaGreatFn11
import Derived.Test.YtomfpjgcficlgaaGreatFn12
import Derived.Test.YtomfpjgcficlgaaGreatFn3
import Derived.Test.YtomfpjgcficlgaaGreatShelfZ
import Derived.Maps.OwnSet
set_option maxRecDepth 1000000
set_option maxHeartbeats 40000000
namespace Go.Proofs.YtomfpjgcficlgaaGreat
open Go.RowKit Go.Afx Go.Maps Go.WideMaps
theorem usesS_any (d:Nat):UsesS d:=by
 induction d with
 | zero=>intro b1 b2 b3 x row w L1 L2 L3 h;exact h.elim
 | succ d ih =>
  intro b1 b2 b3 x row w L1 L2 L3 h hu g1 g2 g3
  obtain⟨ho,hn,hnm,hsr,Ac,nc,cc,Ae,ne,ce,Ab,nb,cb,Al,nl,cl,rfl,hcl,hel,hbl,hll⟩:=h.open_
  rw[cntS,Nat.add_assoc 1,Nat.add_assoc 1,← Nat.add_assoc 1,← Nat.add_assoc 1] at g1 g2 g3
  have e1:∀ o:List ByteArray,(if x.op=4∨x.op=5∨x.op=6 then [x.src] else [])=o→readsS (d+1) x=o++x.exprs.flatMap (srcsE d)++(x.body++x.els).flatMap (readsS d):=by
   intro o ho;rw[readsS,ho,List.flatMap_append,List.append_assoc,List.append_assoc]
  have e2:∀ o:List ByteArray,(if x.op=3∨x.op=4∨x.op=5 then [x.src] else [])=o→writesS (d+1) x=o++(x.body++x.els).flatMap (writesS d):=by
   intro o ho;rw[writesS,ho,List.flatMap_append,List.append_assoc]
  have e3:∀ o:List ByteArray,(if x.op=8 then [x.src] else [])=o→emitsS (d+1) x=o++(x.body++x.els).flatMap (emitsS d):=by
   intro o ho;rw[emitsS,ho,List.flatMap_append,List.append_assoc]
  by_cases h4:x.op=4
  ·rw[e1 [x.src] (by simp[h4]),e2 [x.src] (by simp[h4]),e3 [] (by simp[h4]),h4]
   exact uses_4 d ih b1 b2 b3 x.n x.name x.src Ac Ae Ab Al nc cc ne ce nb cb nl cl x.exprs x.body x.els w L1 L2 L3 hsr hel hbl hll hu (by omega) (by omega) (by omega)
  by_cases h5:x.op=5
  ·rw[e1 [x.src] (by simp[h5]),e2 [x.src] (by simp[h5]),e3 [] (by simp[h5]),h5]
   exact uses_5 d ih b1 b2 b3 x.n x.name x.src Ac Ae Ab Al nc cc ne ce nb cb nl cl x.exprs x.body x.els w L1 L2 L3 hsr hel hbl hll hu (by omega) (by omega) (by omega)
  by_cases h6:x.op=6
  ·rw[e1 [x.src] (by simp[h6]),e2 [] (by simp[h6]),e3 [] (by simp[h6]),h6]
   exact uses_6 d ih b1 b2 b3 x.n x.name x.src Ac Ae Ab Al nc cc ne ce nb cb nl cl x.exprs x.body x.els w L1 L2 L3 hsr hel hbl hll hu (by omega) (by omega) (by omega)
  by_cases h3:x.op=3
  ·rw[e1 [] (by simp[h3]),e2 [x.src] (by simp[h3]),e3 [] (by simp[h3]),h3]
   exact uses_3 d ih b1 b2 b3 x.n x.name x.src Ac Ae Ab Al nc cc ne ce nb cb nl cl x.exprs x.body x.els w L1 L2 L3 hsr hel hbl hll hu (by omega) (by omega) (by omega)
  by_cases h8:x.op=8
  ·rw[e1 [] (by simp[h8]),e2 [] (by simp[h8]),e3 [x.src] (by simp[h8]),h8]
   exact uses_8 d ih b1 b2 b3 x.n x.name x.src Ac Ae Ab Al nc cc ne ce nb cb nl cl x.exprs x.body x.els w L1 L2 L3 hsr hel hbl hll hu (by omega) (by omega) (by omega)
  ·rw[e1 [] (by simp[h4,h5,h6]),e2 [] (by simp[h3,h4,h5]),e3 [] (by simp[h8])]
   exact uses_none d ih b1 b2 b3 x.op x.n x.name x.src Ac Ae Ab Al nc cc ne ce nb cb nl cl x.exprs x.body x.els w L1 L2 L3 (by omega) hel hbl hll hu (by omega) (by omega) (by omega)
theorem use_laid {w:World} {g:Nat} (hg:g=w.heap.size):UseAt (w.alloc (.map #[] 0)) g []:=by subst hg;exact UseAt.made w
theorem UseAt.alloc {w:World} {b:Nat} {L:List ByteArray} (h:UseAt w b L) (o:Obj):UseAt (w.alloc o) b L:=World.ownsMap.alloc h o
theorem Sets.but {w w':World} {S:Nat→Prop} {b1 b2 b3:Nat} {L1 L2 L3:List ByteArray} (h:Sets w b1 b2 b3 L1 L2 L3) (hb:But S w w') (n1:¬ S b1) (n2:¬ S b2) (n3:¬ S b3):Sets w' b1 b2 b3 L1 L2 L3:=⟨h.one.but hb n1,h.two.but hb n2,h.three.but hb n3,h.n12,h.n13,h.n23⟩
theorem usBox0 {w:World} {g:Nat} {T:TypeId} (h:IsBlk w g T #[.map none,.map none,.map none]) :
  w.cell? ⟨g,0,none⟩=some (.map none)∧w.cell? ⟨g,1,none⟩=some (.map none)∧w.cell? ⟨g,2,none⟩=some (.map none)∧g<w.heap.size:=by
 have h0:=h.cell 0;have h1:=h.cell 1;have h2:=h.cell 2
 simp at h0 h1 h2
 exact⟨h0,h1,h2,h.lt⟩
theorem res_ok {W w:World} {B g b1 b2 b3:Nat} {R Wr Em:List ByteArray} (hS:Sets W b1 b2 b3 R Wr Em) (n1:b1≠g) (n2:b2≠g) (n3:b3≠g) (hB:Below B w W) (hg:B≤g) (u v x:Value) :
  Sets (((W.setCell ⟨g,0,none⟩ u).setCell ⟨g,1,none⟩ v).setCell ⟨g,2,none⟩ x) b1 b2 b3 R Wr Em∧Below B w (((W.setCell ⟨g,0,none⟩ u).setCell ⟨g,1,none⟩ v).setCell ⟨g,2,none⟩ x):=by
 have hb:But (fun k=>k=g) W (((W.setCell ⟨g,0,none⟩ u).setCell ⟨g,1,none⟩ v).setCell ⟨g,2,none⟩ x):=(((But.refl (fun k=>k=g) W).setCell (p:=⟨g,0,none⟩) (.inl rfl) u).setCell (p:=⟨g,1,none⟩) (.inl rfl) v).setCell (p:=⟨g,2,none⟩) (.inl rfl) x
 exact⟨hS.but hb n1 n2 n3,((hB.setCell (p:=⟨g,0,none⟩) hg u).setCell (p:=⟨g,1,none⟩) hg v).setCell (p:=⟨g,2,none⟩) hg x⟩
def GivesU (w:World) (R Wr Em:List ByteArray) (r:Ending) (w':World):Prop :=
 ∃ b1 b2 b3,r=.returned (.agg #[.map (some b1),.map (some b2),.map (some b3)])∧Sets w' b1 b2 b3 R Wr Em∧Below w.heap.size w w'
theorem used_any (F:Nat→Prop) (d:Nat) (p:Pr) (row:List Value) (w:World) (h:PrAt F d w row p) (hF:∀ k,F k→k<w.heap.size) (hd:d≤900) (hbig:p.params.length≤1000000) :
  Calls Tryz.prog 57 #[.agg row.toArray] w (GivesU w (readsP d p) (writesP d p) (emitsP d p)):=by
 have hr:=fun W (hW:Below w.heap.size w W)=>right_any F d p row W (h.below hW) (by omega) hbig
 obtain⟨okn,oks,okp,_,Ap,np,cp,Ab,nb,cb,rfl,hpl,hbl⟩:=h
 have hmm:=@run_makeMap Tryz.prog
 have hnb:=LsAt.n_le hbl
 have Hlen:=Lhd (LsAt.len hbl)
 have hcnt:rightB d p=true→cntP d p≤300:=fun h=>by
  rw[rightB_eq] at h
  simp only[Bool.and_eq_true] at h
  exact(small_cnt hd h.1.2).1
 have hP1:readsP d p=if rightB d p then p.body.flatMap (readsS d) else []:=rfl
 have hP2:writesP d p=if rightB d p then p.body.flatMap (writesS d) else []:=rfl
 have hP3:emitsP d p=if rightB d p then p.body.flatMap (emitsS d) else []:=rfl
 obtain⟨q,Hq⟩:∃ q,Hid (rightB d p=q):=⟨_,rfl⟩
 rw[Hq.out] at hr hcnt hP1 hP2 hP3
 have Hr:=Lhd hr
 have HP1:=Lhd hP1
 have HP2:=Lhd hP2
 have HP3:=Lhd hP3
 clear hr hP1 hP2 hP3 hpl
 obtain⟨w6,Hw6⟩:∃ w6,Hid (w6=(((((w.alloc (.cells #[.string p.name,.string p.src,.string p.part,.int .i64 p.fuel,.slice Ap np cp,.slice Ab nb cb] 46)).alloc (.cells #[.map none,.map none,.map none] 105)).alloc (.map #[] 0)).alloc (.map #[] 0)).alloc (.map #[] 0)).alloc (.cells #[.map (some (w.heap.size+1+1)),.map (some (w.heap.size+1+1+1)),.map (some (w.heap.size+1+1+1+1))] 105)):=⟨_,rfl⟩
 have hb6:Below w.heap.size w w6:=by rw[Hw6.out];exact((((((Below.refl _ _).alloc (Nat.le_refl _) _).alloc (by simp) _).alloc (by simp;omega) _).alloc (by simp;omega) _).alloc (by simp;omega) _).alloc (by simp;omega) _
 have hz6:w6.heap.size=w.heap.size+6:=by rw[Hw6.out];simp
 have hx6:IsBlk w6 w.heap.size 46 #[.string p.name,.string p.src,.string p.part,.int .i64 p.fuel,.slice Ap np cp,.slice Ab nb cb]:=by rw[Hw6.out];exact(((((IsBlk.laid _ _ _).alloc _).alloc _).alloc _).alloc _).alloc _
 have hr6:IsBlk w6 (w.heap.size+1) 105 #[.map none,.map none,.map none]:=by rw[Hw6.out];exact((((laid_at (by simp) _ _).alloc _).alloc _).alloc _).alloc _
 have hu6:IsBlk w6 (w.heap.size+1+1+1+1+1) 105 #[.map (some (w.heap.size+1+1)),.map (some (w.heap.size+1+1+1)),.map (some (w.heap.size+1+1+1+1))]:=by rw[Hw6.out];exact laid_at (by simp) _ _
 have hS6:Sets w6 (w.heap.size+1+1) (w.heap.size+1+1+1) (w.heap.size+1+1+1+1) [] [] []:=by
  rw[Hw6.out]
  exact⟨(((use_laid (by simp)).alloc _).alloc _).alloc _,((use_laid (by simp)).alloc _).alloc _,(use_laid (by simp)).alloc _,by omega,by omega,by omega⟩
 go_enter Tryz.func57,Tryz.ntmps57
 go_upto_region 2 with (fail)
 rw[← Hw6.out]
 have Hx6:=Lhd hx6
 have Hr6:=Lhd hr6
 have Hu6:=Lhd hu6
 have HS6:=Lhd hS6
 have Hz6:=Lhd hz6
 obtain⟨i0,i1,i2,i3,i4,i5,il⟩:=prBox hx6
 clear hx6 hr6 hu6 hz6 hS6
 cases q
 ·go_wp2_with (go_at_call 81;refine(Hr.out _ hb6).mono ?_;rintro x w7 ⟨rfl,hb7⟩;have hu7:=Hu6.out.as_was (hb7.block _ Hu6.out.lt);have hr7:=Hr6.out.as_was (hb7.block _ Hr6.out.lt);obtain⟨j0,j1,j2,jl⟩:=usBox hu7;obtain⟨r0,r1,r2,rl⟩:=usBox0 hr7;have rf:=hr7.frozen)
  have hz7:=hb7.size
  have hz:=Hz6.out
  obtain⟨k1,k2⟩:=res_ok (g:=w.heap.size+1) (HS6.out.below hb7) (by omega) (by omega) (by omega) (hb6.trans (hb7.mono hb6.size)) (by omega) (.map (some (w.heap.size+1+1))) (.map (some (w.heap.size+1+1+1))) (.map (some (w.heap.size+1+1+1+1)))
  refine bodyPost_ret (v:=.agg #[.map (some (w.heap.size+1+1)),.map (some (w.heap.size+1+1+1)),.map (some (w.heap.size+1+1+1+1))]) (by simp[results,Tryz.results57,go_sem,r0,r1,r2]) rfl ⟨_,_,_,rfl,?_,k2⟩
  rw[HP1.out,HP2.out,HP3.out]
  exact k1
 ·go_wp2_with (go_at_call 81;refine(Hr.out _ hb6).mono ?_;rintro x w7 ⟨rfl,hb7⟩;have hx7:=Hx6.out.as_was (hb7.block _ Hx6.out.lt);obtain⟨j0,j1,j2,j3,j4,j5,jl⟩:=prBox hx7)
  have hz7:=hb7.size
  have hz:=Hz6.out
  have hcnt':cntP d p≤300:=by simpa using hcnt
  have hb07:=hb6.trans (hb7.mono hb6.size)
  have hbl7:StsAt (NB (w.heap.size+1+1) (w.heap.size+1+1+1) (w.heap.size+1+1+1+1)) d w7 Ab nb cb p.body:=StsAt.conv (fun k hk=>by have:=hF k hk;exact⟨by omega,by omega,by omega⟩) (Kept.of_below hb07) (Nat.le_refl _) hbl
  have hS7:=HS6.out.below hb7
  have Hu7:=Lhd (Hu6.out.as_was (hb7.block _ Hu6.out.lt))
  have Hr7:=Lhd (Hr6.out.as_was (hb7.block _ Hr6.out.lt))
  have Hl7:=Lhd hbl7
  have Hs3:=Lhd (fun (W:World) (hW:But (S3 (w.heap.size+1+1) (w.heap.size+1+1+1) (w.heap.size+1+1+1+1)) w7 W)=>And.intro (usBox (Hu7.out.as_was (hW.block _ Hu7.out.lt (fun h=>by rcases h with h|h|h<;>omega)))) (usBox0 (Hr7.out.as_was (hW.block _ Hr7.out.lt (fun h=>by rcases h with h|h|h<;>omega)))))
  have Hfz:=Lhd (fun (W:World) (hW:But (S3 (w.heap.size+1+1) (w.heap.size+1+1+1) (w.heap.size+1+1+1+1)) w7 W)=>(Hr7.out.as_was (hW.block _ Hr7.out.lt (fun h=>by rcases h with h|h|h<;>omega))).frozen)
  clear hbl hbl7 hcnt
  go_loopw [15] (fun i wr=>∃ k:Nat,k≤nb∧i=.int .i64 k∧Sets wr (w.heap.size+1+1) (w.heap.size+1+1+1) (w.heap.size+1+1+1+1) ((p.body.take k).flatMap (readsS d)) ((p.body.take k).flatMap (writesS d)) ((p.body.take k).flatMap (emitsS d))∧But (S3 (w.heap.size+1+1) (w.heap.size+1+1+1) (w.heap.size+1+1+1+1)) w7 wr) (fun i _=>nb-(intOf i).toNat)
  case atStart=>exact⟨0,Nat.zero_le _,rfl,by simpa using hS7,But.refl _ _⟩
  case round =>
   obtain⟨k,hk,rfl,hS8,hB8⟩:=hrel
   obtain⟨⟨u0,u1,u2,ul⟩,r0,r1,r2,rl⟩:=Hs3.out wr hB8
   have rf:=Hfz.out wr hB8
   by_cases hlt:k<nb
   ·cases d with
    | zero =>
     obtain⟨b,o,r,e,hA,hbl,_,he,hl,hp,hc⟩:=LsAt.get (Hl7.out.kept (nb_kept hB8)) hlt
     exact hp.elim
    | succ d =>
     obtain⟨b,o,x,Ac2,nc2,cc2,Ae2,ne2,ce2,Ab2,nb2,cb2,Al2,nl2,cl2,rfl,hbl,hx,hc0,hc1,hc2,hc3,hc4,hc5,hc6,hc7,hp,_⟩:=StsAt.get (Hl7.out.kept (nb_kept hB8)) hlt
     have Hx:=Lhd hx
     clear hx
     have hbn:Below wr.heap.size wr (wr.alloc (.cells #[.int .i64 x.op,.string x.name,.string x.src,.int .i64 x.n,.slice Ac2 nc2 cc2,.slice Ae2 ne2 ce2,.slice Ab2 nb2 cb2,.slice Al2 nl2 cl2] 60)):=(Below.refl _ _).alloc (Nat.le_refl _) _
     have hUn:=hS8.below hbn
     have t0:=sum_take (f:=cntS (d+1)) Hx.out
     have t1:=flat_cnt (readsS_le (d+1)) (p.body.take k)
     have t2:=flat_cnt (writesS_le (d+1)) (p.body.take k)
     have t3:=flat_cnt (emitsS_le (d+1)) (p.body.take k)
     unfold cntP at hcnt'
     have Hc:=Lhd (usesS_any (d+1) _ _ _ x _ _ _ _ _ (hp.below hbn) hUn (by omega) (by omega) (by omega))
     clear t0 t1 t2 t3 hUn
     go_wp2_with (go_at_call 82;refine Hc.out.mono ?_;rintro y w8 ⟨rfl,hU8,hB9⟩)
     go_roundw
     case rel=>exact⟨k+1,by omega,by go_num,by simp only[flat_take Hx.out];exact hU8,(hB8.then_below hbn).trans' hB9⟩
     case measure=>simp[intOf];omega
   ·go_wp2
    have hb08:Below w.heap.size w wr:=hb07.trans (hB8.below' hb07.size (fun i hi=>by rcases hi with hi|hi|hi<;>omega))
    rw[List.take_of_length_le (by rw[Hlen.out];omega)] at hS8
    obtain⟨k1,k2⟩:=res_ok (g:=w.heap.size+1) hS8 (by omega) (by omega) (by omega) hb08 (by omega) (.map (some (w.heap.size+1+1))) (.map (some (w.heap.size+1+1+1))) (.map (some (w.heap.size+1+1+1+1)))
    refine bodyPost_ret (v:=.agg #[.map (some (w.heap.size+1+1)),.map (some (w.heap.size+1+1+1)),.map (some (w.heap.size+1+1+1+1))]) (by simp[results,Tryz.results57,go_sem,r0,r1,r2]) rfl ⟨_,_,_,rfl,?_,k2⟩
    rw[HP1.out,HP2.out,HP3.out]
    exact k1
open Go.RowKit Go.Afx Go.Maps Go.WideMaps Go.Shelf Go.Sort
def setL (L:List ByteArray):List (List UInt8):=(strKeys (setOf (.lit (.bool true)) (L.map litS):DataW Unit)).mergeSort fun x y=>decide (x≤y)
theorem sortsZ (m:Nat):AnyZ.SortsIn Tryz.prog Tryz.sortedZ_ren Fence.wide m :=
  ⟨fun blk off cap ss W hH hblk hsz=>callsIn_wide.2 (AnyM.slices_Sort_string Tryz.sortS blk off cap ss W hH hblk hsz),
   fun p cap W=>callsIn_wide.2 (AnyM.slices_Sort_string_none Tryz.sortS p cap W)⟩
theorem keys_any (b:Nat) (w:World):Calls Tryz.prog 47 #[.map (some b)] w fun e w'=>e=.returned (.func (.func 73) #[] #[.pointer (some ⟨w.heap.size,0,none⟩)])∧w'=w.alloc (.cells #[.map (some b)] 89) :=
 callsIn_wide.1 (AnyZ.keys_in Tryz.keysZ Fence.wide 5 trivial rfl (some b) w)
def OwnsN (w:World) (ns:List (List UInt8)) (e:Ending) (w':World):Prop :=
 ∃ A c,e=.returned (.slice A ns.length c)∧w'.ownsRow w.heap.size 9 1 (.slice A ns.length c) ns.length (ns.map encStr)∧Below w.heap.size w w'
theorem sortedKeys_any (b:Nat) (L:List ByteArray) (w:World) (h:UseAt w b L) (hL:L.length≤1000000) :
  Calls Tryz.prog 56 #[.func (.func 73) #[] #[.pointer (some ⟨w.heap.size,0,none⟩)]] (w.alloc (.cells #[.map (some b)] 89)) (OwnsN (w.alloc (.cells #[.map (some b)] 89)) (setL L)):=by
 have hown:w.ownsMap Tryz.prog 9 (plainElem (H:=Unit) Tryz.prog 4) b L.length (setOf (.lit (.bool true)) (L.map litS)):=h
 have hsz:=World.ownsMap.size_le hown
 have hbl:=h.lt
 have hseq:SeqGives Fence.wide 2 Tryz.prog 73 #[.pointer (some ⟨w.heap.size,0,none⟩)] encStr (fun ss=>ss.Perm (strKeys (setOf (.lit (.bool true)) (L.map litS):DataW Unit))) (Maps.size (setOf (.lit (.bool true)) (L.map litS):DataW Unit)) (w.alloc (.cells #[.map (some b)] 89)) :=
  AnyZ.keys_gives (ρ:=Tryz.keysZ_ren) { Tryz.keysZ with } Fence.wide _ trivial rfl (by omega) w.heap.size b L.length _ _ (by simp) (by simp) (UseAt.alloc h _)
 have cS:=AnyZ.sorted_in Tryz.sortedZ Fence.wide 5 trivial trivial trivial trivial rfl (by omega) (sortsZ _) (enters_of Tryz.func25 (by kernel_rfl) rfl) 73 #[.pointer (some ⟨w.heap.size,0,none⟩)] trivial (enters_of Tryz.func73 (by kernel_rfl) rfl) _ _ (by unfold maxLen;omega) (by omega) _ hseq
 refine(callsIn_wide.1 cS).mono ?_
 rintro e w' ⟨v,ss,rfl,hperm,hrow,hnil,hb⟩
 have hss:ss.mergeSort (fun x y=>decide (x≤y))=setL L:=mergeSort_of_perm hperm
 have hlen:ss.length=(setL L).length:=by rw[← hss,List.length_mergeSort]
 rw[hss,hlen] at hrow
 obtain⟨A,c,rfl,_⟩:=ownsRow_form hrow
 exact⟨A,c,rfl,hrow,hb⟩
theorem emits_any (F:Nat→Prop) (d:Nat) (p:Pr) (row:List Value) (w:World) (h:PrAt F d w row p) (hF:∀ k,F k→k<w.heap.size) (hd:d≤900) (hbig:p.params.length≤1000000) (hL:(emitsP d p).length≤1000000) :
  Calls Tryz.prog 36 #[.agg row.toArray] w (OwnsN w (setL (emitsP d p))):=by
 have hfd:∀ (m1 m2 m3:Nat) (W:World),(Instr.field 105 (.agg #[.map (some m1),.map (some m2),.map (some m3)]) 2).run Tryz.prog W=.ok (.map (some m3)) W:=fun _ _ _ _=>by kernel_rfl
 have hb1:∀ o,Below w.heap.size w (w.alloc o):=fun o=>(Below.refl _ _).alloc (Nat.le_refl _) o
 have Hu:=Lhd (fun W (hW:Below w.heap.size w W)=>used_any F d p row W (h.below hW) (fun k hk=>Nat.lt_of_lt_of_le (hF k hk) hW.size) hd hbig)
 obtain⟨okn,oks,okp,_,Ap,np,cp,Ab,nb,cb,rfl,hpl,hbl⟩:=h
 generalize readsP d p=R at *
 generalize writesP d p=Wr at *
 generalize emitsP d p=Em at *
 clear hpl hbl
 go_enter Tryz.func36,Tryz.ntmps36
 go_wp2_with (first|(go_at_call 57;refine(Hu.out _ (hb1 _)).mono ?_;rintro x w1 ⟨b1,b2,b3,rfl,hS,hb⟩;have HK:=Lhd (sortedKeys_any _ _ w1 hS.three hL))|(go_at_call 47;refine(keys_any _ _).mono ?_;rintro x w2 ⟨rfl,rfl⟩)|(go_at_call 56;refine HK.out.mono ?_;rintro x w3 ⟨A,c,rfl,hown,hb3⟩))
 go_ret
 have hz:=hb.size
 simp at hz
 exact⟨A,c,rfl,own_base hown (by simp;omega),((hb1 _).trans (hb.mono (by simp))).trans (((Below.refl _ w1).alloc (Nat.le_refl _) _).trans (hb3.mono (by simp)) |>.mono (by omega))⟩
open Go.RowKit Go.Afx
theorem resB_no {s:ByteArray} (h:∀ y∈wordsL,(y.toList==s.toList)=false):resB s=false:=by
 unfold resB
 rw[List.any_eq_false]
 exact fun y hy=>by simp[h y hy]
theorem resB_yes {s y:ByteArray} (h:y∈wordsL) (hy:(y.toList==s.toList)=true):resB s=true:=by
 unfold resB
 rw[List.any_eq_true]
 exact⟨y,h,hy⟩
theorem words_ok:∀ y∈wordsL,okS y:=by unfold okS;decide +kernel
theorem resRef_any (s:ByteArray) (w:World):Calls Tryz.prog 78 #[.string s] w fun x w'=>x=.returned (.bool (resB s))∧Below w.heap.size w w':=by
 obtain⟨w1,Hw1⟩:∃ w1,Hid (w1=w.alloc (.cells (wordsL.map fun s=>Value.string s).toArray 9)):=⟨_,rfl⟩
 have hb1:Below w.heap.size w w1:=by rw[Hw1.out];exact(Below.refl _ _).alloc (Nat.le_refl _) _
 have hl:LsAt (fun _=>True) w1 1 SRow (some ⟨w.heap.size,0,none⟩) 43 43 wordsL:=by
  rw[Hw1.out]
  refine⟨wordsL.map fun s=>[.string s],RowsAt.lit _ _ 43 rfl (by simp) rfl (by unfold maxLen;omega),fun _ _ _=>trivial,rfl,fun k r x hr hx=>?_⟩
  rw[List.getElem?_map,hx] at hr
  simp at hr
  subst hr
  exact⟨rfl,rfl,words_ok x (List.mem_of_getElem? hx)⟩
 have Hw2:Hid (w1=w.alloc (.cells (wordsL.map fun s=>Value.string s).toArray 9)):=Hw1
 simp only[wordsL,str,List.map_cons,List.map_nil] at Hw1
 have Hl:=Lhd hl
 clear hl
 go_enter Tryz.func78,Tryz.ntmps78
 go_wp2
 rw[← Hw1.out]
 go_loop [4] (fun i=>∃ k:Nat,k≤43∧i=.int .i64 k∧∀ y∈wordsL.take k,(y.toList==s.toList)=false) (fun i=>43-(intOf i).toNat)
 case atStart=>exact⟨0,Nat.zero_le _,rfl,by simp⟩
 case round =>
  obtain⟨k,hk,rfl,hno⟩:=hrel
  have Hno:=Lhd hno;clear hno
  by_cases hlt:k<43
  ·obtain⟨b,o,x,hA,hbl,hx,hs,hc0⟩:=strAt Hl.out hlt
   cases hA
   have Hx:=Lhd hx;clear hx
   simp only[Nat.zero_add] at hc0
   by_cases he:(x.toList==s.toList)=true
   ·have Hf:=Lhd (resB_yes (List.mem_of_getElem? Hx.out) he)
    go_wp2
    go_ret
    exact⟨by rw[Hf.out];rfl,hb1⟩
   ·have he:(x.toList==s.toList)=false:=by simpa using he
    have Hne:=Lhd (mem_take_succ Hx.out Hno.out he)
    go_wp2
    go_round
    case rel=>exact⟨k+1,by omega,by go_num,Hne.out⟩
    case measure=>simp[intOf];omega
  ·go_wp2
   go_ret
   have h1:=Hno.out
   rw[List.take_of_length_le (by simp only[wordsL,List.length_cons,List.length_nil];omega)] at h1
   exact⟨ret_bool (resB_no h1).symm,hb1⟩
theorem named_eq (s:ByteArray) (h:0<s.size):namedB s=(decide (s.size≤16)&&letterB s[0]&&s.data.toList.all partB):=by
 obtain⟨c,r,hs,hc,hl⟩:=list_of s h
 unfold namedB
 rw[hs,hc,← hl]
 simp only[List.all_cons]
 cases hq:letterB c
 ·simp
 ·simp[letter_part hq]
theorem namedRef_any (s:ByteArray) (w:World) (hs:okS s):Calls Tryz.prog 77 #[.string s] w fun x w'=>x=.returned (.bool (namedB s))∧w=w':=by
 unfold okS at hs
 by_cases h0:s.size=0
 ·have hn:namedB s=false:=by
   unfold namedB
   have:s.data.toList=[]:=List.eq_nil_of_length_eq_zero (by simpa using h0)
   rw[this]
  have hd:decide ((s.size:Int)<1)=true:=by simp;omega
  have Hn:=Lhd hn
  clear h0 hn
  go_enter Tryz.func77,Tryz.ntmps77
  go_wp2
  go_ret
  exact⟨by rw[Hn.out];rfl,rfl⟩
 ·have hpos:0<s.size:=by omega
  have hd:decide ((s.size:Int)<1)=false:=by simp;omega
  have hn:=named_eq s hpos
  clear h0
  by_cases h16:16<s.size
  ·have hn2:namedB s=false:=by rw[hn];simp;omega
   have Hn:=Lhd hn2
   clear hn hn2
   have hd2:decide ((16:Int)<(s.size:Int))=true:=by simp;omega
   go_enter Tryz.func77,Tryz.ntmps77
   go_wp2
   go_ret
   exact⟨by rw[Hn.out];rfl,rfl⟩
  ·have hd2:decide ((16:Int)<(s.size:Int))=false:=by simp;omega
   have hn2:namedB s=(letterB s[0]&&s.data.toList.all partB):=by rw[hn,decide_eq_true (by omega:s.size≤16),Bool.true_and]
   have Hn:=Lhd hn2
   clear hn hn2
   go_enter Tryz.func77,Tryz.ntmps77
   go_wp2
   clear hd hd2
   go_loop [3] (fun i=>∃ k:Nat,k≤s.size∧i=.int .i64 k∧(k=0∨letterB s[0]=true)∧∀ y∈s.data.toList.take k,partB y=true) (fun i=>s.size-(intOf i).toNat)
   case atStart=>exact⟨0,Nat.zero_le _,rfl,.inl rfl,by simp⟩
   case round =>
    obtain⟨k,hk,rfl,hl0,hall⟩:=hrel
    have Hall:=Lhd hall
    have Hl0:=Lhd hl0
    clear hall hl0
    by_cases hlt:k<s.size
    ·have Hy:=Lhd (show s.data.toList[k]?=some s[k] by rw[List.getElem?_eq_getElem (by simpa using hlt)];rfl)
     have Hgo:=Lhd (fun (h1:partB s[k]=true) (h2:k=0→letterB s[k]=true)=>(⟨by
       by_cases hk0:k=0
       ·subst hk0;exact .inr (h2 rfl)
       ·rcases Hl0.out with h|h
        ·exact absurd h hk0
        ·exact .inr h,mem_take_succ Hy.out Hall.out h1⟩:(k+1=0∨letterB s[0]=true)∧∀ y∈s.data.toList.take (k+1),partB y=true))
     have Hst:=Lhd (fun (h:letterB s[k]=false) (hk0:k=0)=>(show namedB s=false by subst hk0;rw[Hn.out,h];rfl))
     have Hst2:=Lhd (fun (h:partB s[k]=false)=>(show namedB s=false by
      have:s.data.toList.all partB=false:=by rw[List.all_eq_false];exact⟨_,List.mem_of_getElem? Hy.out,by simp[h]⟩
      rw[Hn.out,this];simp))
     have HL:Hid (letterB s[k]=(decide (97≤s[k].toNat)&&decide (s[k].toNat≤122))):=Lhd rfl
     have HP:Hid (partB s[k]=((decide (97≤s[k].toNat)&&decide (s[k].toNat≤122))||(decide (48≤s[k].toNat)&&decide (s[k].toNat≤57))||decide (s[k].toNat=95))):=Lhd rfl
     generalize hc:s[k].toNat=c at HL HP
     by_cases hA:97≤c
     ·by_cases hB:c≤122
      ·have dA:(decide ((97:Int)≤(s[k].toNat:Int)))=true:=by simp;omega
       have dB:(decide ((s[k].toNat:Int)≤(122:Int)))=true:=by simp;omega
       have Hg:=Lhd (Hgo.out (by rw[HP.out];simp;omega) (by intro h;rw[HL.out];simp;omega))
       clear hc
       go_wp2
       go_round
       case rel=>exact⟨k+1,by omega,by go_num,Hg.out.1,Hg.out.2⟩
       case measure=>simp[intOf];omega
      ·by_cases hk0:k=0
       ·have dA:(decide ((97:Int)≤(s[k].toNat:Int)))=true:=by simp;omega
        have dB:(decide ((s[k].toNat:Int)≤(122:Int)))=false:=by simp;omega
        have dK:(((k:Int)==0))=true:=by simp;omega
        have Hg:=Lhd (Hst.out (by rw[HL.out];simp;omega) (by omega))
        clear hc hk0
        go_wp2
        go_ret
        exact⟨ret_bool Hg.out.symm,rfl⟩
       ·have dA:(decide ((97:Int)≤(s[k].toNat:Int)))=true:=by simp;omega
        have dB:(decide ((s[k].toNat:Int)≤(122:Int)))=false:=by simp;omega
        have dC:(decide ((48:Int)≤(s[k].toNat:Int)))=true:=by simp;omega
        have dD:(decide ((s[k].toNat:Int)≤(57:Int)))=false:=by simp;omega
        have dE:(((s[k].toNat:Int) !=95))=true:=by simp;omega
        have dK:(((k:Int)==0))=false:=by simp;omega
        have Hg:=Lhd (Hst2.out (by rw[HP.out];simp;omega))
        clear hc
        go_wp2
        go_ret
        exact⟨ret_bool Hg.out.symm,rfl⟩
     ·by_cases hk0:k=0
      ·have dA:(decide ((97:Int)≤(s[k].toNat:Int)))=false:=by simp;omega
       have dK:(((k:Int)==0))=true:=by simp;omega
       have Hg:=Lhd (Hst.out (by rw[HL.out];simp;omega) (by omega))
       clear hc hk0
       go_wp2
       go_ret
       exact⟨ret_bool Hg.out.symm,rfl⟩
      ·by_cases hC:48≤c
       ·by_cases hD:c≤57
        ·have dA:(decide ((97:Int)≤(s[k].toNat:Int)))=false:=by simp;omega
         have dC:(decide ((48:Int)≤(s[k].toNat:Int)))=true:=by simp;omega
         have dD:(decide ((s[k].toNat:Int)≤(57:Int)))=true:=by simp;omega
         have dK:(((k:Int)==0))=false:=by simp;omega
         have Hg:=Lhd (Hgo.out (by rw[HP.out];simp;omega) (by intro h;rw[HL.out];simp;omega))
         clear hc
         go_wp2
         go_round
         case rel=>exact⟨k+1,by omega,by go_num,Hg.out.1,Hg.out.2⟩
         case measure=>simp[intOf];omega
        ·by_cases hE:c=95
         ·have dA:(decide ((97:Int)≤(s[k].toNat:Int)))=false:=by simp;omega
          have dC:(decide ((48:Int)≤(s[k].toNat:Int)))=true:=by simp;omega
          have dD:(decide ((s[k].toNat:Int)≤(57:Int)))=false:=by simp;omega
          have dE:(((s[k].toNat:Int) !=95))=false:=by simp;omega
          have dK:(((k:Int)==0))=false:=by simp;omega
          have Hg:=Lhd (Hgo.out (by rw[HP.out];simp;omega) (by intro h;rw[HL.out];simp;omega))
          clear hc
          go_wp2
          go_round
          case rel=>exact⟨k+1,by omega,by go_num,Hg.out.1,Hg.out.2⟩
          case measure=>simp[intOf];omega
         ·have dA:(decide ((97:Int)≤(s[k].toNat:Int)))=false:=by simp;omega
          have dC:(decide ((48:Int)≤(s[k].toNat:Int)))=true:=by simp;omega
          have dD:(decide ((s[k].toNat:Int)≤(57:Int)))=false:=by simp;omega
          have dE:(((s[k].toNat:Int) !=95))=true:=by simp;omega
          have dK:(((k:Int)==0))=false:=by simp;omega
          have Hg:=Lhd (Hst2.out (by rw[HP.out];simp;omega))
          clear hc
          go_wp2
          go_ret
          exact⟨ret_bool Hg.out.symm,rfl⟩
       ·have dA:(decide ((97:Int)≤(s[k].toNat:Int)))=false:=by simp;omega
        have dC:(decide ((48:Int)≤(s[k].toNat:Int)))=false:=by simp;omega
        have dE:(((s[k].toNat:Int) !=95))=true:=by simp;omega
        have dK:(((k:Int)==0))=false:=by simp;omega
        have Hg:=Lhd (Hst2.out (by rw[HP.out];simp;omega))
        clear hc
        go_wp2
        go_ret
        exact⟨ret_bool Hg.out.symm,rfl⟩
    ·go_wp2
     go_ret
     have h1:=Hall.out
     rw[List.take_of_length_le (by simp;omega)] at h1
     have h2:letterB s[0]=true:=Hl0.out.resolve_left (by omega)
     exact⟨ret_bool (by rw[Hn.out,h2,Bool.true_and,eq_comm,List.all_eq_true];exact h1),rfl⟩
theorem freeRef_any (s:ByteArray) (w:World) (hs:okS s):Calls Tryz.prog 54 #[.string s] w fun x w'=>x=.returned (.bool (freeB s))∧Below w.heap.size w w':=by
 have h1:=namedRef_any s w hs
 have h2:=resRef_any s w
 have hf:freeB s=(namedB s&&!resB s):=rfl
 generalize resB s=r at *
 generalize namedB s=q at *
 have Hf:=Lhd hf
 have H1:=Lhd h1
 have H2:=Lhd h2
 clear h1 h2 hf
 cases q
 ·go_enter Tryz.func54,Tryz.ntmps54
  go_wp2_with (go_at_call 77;refine H1.out.mono ?_;rintro x w1 ⟨rfl,rfl⟩)
  go_ret
  exact⟨ret_bool (by rw[Hf.out];rfl),Below.refl _ _⟩
 ·go_enter Tryz.func54,Tryz.ntmps54
  go_wp2_with (first|(go_at_call 77;refine H1.out.mono ?_;rintro x w1 ⟨rfl,rfl⟩)|(go_at_call 78;refine H2.out.mono ?_;rintro x w2 ⟨rfl,hb2⟩))
  go_ret
  exact⟨ret_bool (by rw[Hf.out];rfl),hb2⟩
open Go.RowKit Go.Afx Go.Maps
def NamesAt (w:World) (A:Option Addr) (n c:Nat) (xs:List ByteArray):Prop:=RowsAt w 1 A n c (xs.map srow)
theorem NamesAt.below {w w':World} {A:Option Addr} {n c:Nat} {xs:List ByteArray} (h:NamesAt w A n c xs) (hb:Below w.heap.size w w'):NamesAt w' A n c xs:=RowsAt.below h hb
theorem NamesAt.len {w:World} {A:Option Addr} {n c:Nat} {xs:List ByteArray} (h:NamesAt w A n c xs):xs.length=n:=by have:=RowsAt.len h;simpa using this
theorem NamesAt.at_ {w:World} {A:Option Addr} {n c:Nat} {xs:List ByteArray} (h:NamesAt w A n c xs) {k:Nat} (hk:k<n):∃ b o x,A=some ⟨b,o,none⟩∧b<w.heap.size∧xs[k]?=some x∧w.cell? ⟨b,o+k,none⟩=some (.string x):=by
 have hl:=h.len
 have hx:xs[k]?=some (xs[k]'(by omega)):=List.getElem?_eq_getElem _
 obtain⟨b,o,hA,hb,hc⟩:=RowsAt.one (u:=.string (xs[k]'(by omega))) h (k:=k) (by rw[List.getElem?_map,hx];rfl)
 exact⟨b,o,_,hA,hb,hx,hc⟩
theorem take_same {xs ys:List ByteArray} {k:Nat} {x y:ByteArray} (hx:xs[k]?=some x) (hy:ys[k]?=some y) (h:xs.take k=ys.take k) (he:x=y):xs.take (k+1)=ys.take (k+1):=by
 rw[take_succ_of' hx,take_succ_of' hy,h,he]
theorem sameRef_any (A A2:Option Addr) (n c m c2:Nat) (xs ys:List ByteArray) (w:World) (h1:NamesAt w A n c xs) (h2:NamesAt w A2 m c2 ys) :
  Calls Tryz.prog 10 #[.slice A n c,.slice A2 m c2] w fun x w'=>x=.returned (.bool (decide (xs=ys)))∧Below w.heap.size w w':=by
 have hn:=RowsAt.n_le h1
 have hm:=RowsAt.n_le h2
 have Hl1:=Lhd h1.len
 have Hl2:=Lhd h2.len
 by_cases hnm:n=m
 ·subst hnm
  go_enter Tryz.func10,Tryz.ntmps10
  go_wp2
  go_loopw [5] (fun i wr=>∃ k:Nat,k≤n∧i=.int .i64 k∧xs.take k=ys.take k∧Below w.heap.size w wr) (fun i _=>n-(intOf i).toNat)
  case atStart=>exact⟨0,Nat.zero_le _,rfl,by simp,Below.refl _ _⟩
  case round =>
   obtain⟨k,hk,rfl,heq,hb⟩:=hrel
   have Heq:=Lhd heq
   clear heq
   by_cases hlt:k<n
   ·obtain⟨b,o,x,rfl,hbl,hx,hc⟩:=(h1.below hb).at_ hlt
    obtain⟨b2,o2,y,rfl,hbl2,hy,hc2⟩:=(h2.below hb).at_ hlt
    have Hx:=Lhd hx
    have Hy:=Lhd hy
    clear hx hy
    have hki:(k:Int)<(n:Int):=by omega
    by_cases he:(x.toList==y.toList)=true
    ·have Hs:=Lhd (take_same Hx.out Hy.out Heq.out (by simpa [bs_eq] using he))
     have he2:(x.toList !=y.toList)=false:=by simpa using he
     go_wp2
     go_quiet (fail)
     go_wp2
     go_roundw
     case rel=>exact⟨k+1,by omega,by go_num,Hs.out,below_drewN hb _⟩
     case measure=>simp[intOf];omega
    ·have he:(x.toList==y.toList)=false:=by simpa using he
     have he2:(x.toList !=y.toList)=true:=by simpa using he
     have Hne:Hid (x≠y):=Lhd (by intro h;rw[h] at he;simp at he)
     go_wp2
     go_quiet (fail)
     go_wp2
     go_ret
     refine⟨ret_bool ?_,below_drewN hb _⟩
     rw[eq_comm,decide_eq_false_iff_not]
     intro h
     subst h
     have:=Hx.out.symm.trans Hy.out
     simp at this
     exact Hne.out this
   ·go_wp2
    go_ret
    refine⟨ret_bool ?_,hb⟩
    have h:=Heq.out
    rw[List.take_of_length_le (by rw[Hl1.out];omega),List.take_of_length_le (by rw[Hl2.out];omega)] at h
    simp[h]
 ·have hd:((n:Int)==(m:Int))=false:=by simp;omega
  have hd2:((n:Int) !=(m:Int))=true:=by simp;omega
  have Hnm:=Lhd hnm
  clear hnm
  go_enter Tryz.func10,Tryz.ntmps10
  go_wp2
  go_ret
  refine⟨ret_bool ?_,Below.refl _ _⟩
  rw[eq_comm,decide_eq_false_iff_not]
  intro h
  exact Hnm.out (by rw[← Hl1.out,← Hl2.out,h])
/-! the example -/
theorem resB_alt (s:ByteArray):resB s=wordsL.any fun x=>decide (x=s):=by
 unfold resB
 congr 1
 funext x
 exact bs_eq
def exE:Ex:=.mk 3 1 (str []) (str []) (str []) []
def exS:St:=.mk 5 (str [97]) (str [116]) 0 [] [exE] [] []
def exP:Pr:=⟨str [112],str [],str [],1,[],[exS]⟩
theorem OwnsN.names {w:World} {base:Nat} {A:Option Addr} {c:Nat} {ns:List (List UInt8)} (h:w.ownsRow base 9 1 (.slice A ns.length c) ns.length (ns.map encStr)):NamesAt w A ns.length c (ns.map str):=by
 have e:((ns.map str).map srow).flatten=ns.map encStr:=by
  rw[List.map_map]
  induction ns with
  | nil=>rfl
  | cons a r ih =>
   have:∀ r:List (List UInt8),(r.map (srow ∘ str)).flatten=r.map encStr:=by
    intro r
    induction r with
    | nil=>rfl
    | cons b r ih=>rw[List.map_cons,List.flatten_cons,ih];rfl
   exact this _
 exact RowsAt.of_own (e▸h) srow_len (by simp)
end Go.Proofs.YtomfpjgcficlgaaGreat
