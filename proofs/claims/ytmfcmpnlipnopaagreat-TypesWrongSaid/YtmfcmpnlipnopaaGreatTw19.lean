/- Parts of this proof, one behind the other: SynB, SynC, SynD. -/
import Derived.Test.YtmfcmpnlipnopaaGreatTw18
import Derived.Lib.ConvBytes
set_option maxRecDepth 1000000
set_option maxHeartbeats 40000000
namespace Go.Proofs.YtmfcmpnlipnopaaGreat
open Go.RowKit Go.Afx
def SizesE (F:Nat→Prop) (d:Nat):Prop:=∀ (e:Ex) (row:List Value) (lv:Int) (w:World),ExAt F d w row e→0≤lv→lv+d≤100000 →
 Calls Tryz.prog 82 #[.agg row.toArray,.int .i64 lv] w fun x w'=>x=.returned (.agg #[.int .i64 (sizeE d lv e).1,.int .i64 (sizeE d lv e).2])∧Below w.heap.size w w'
theorem drop_cons {α:Type} {l:List α} {k:Nat} {x:α} (h:l[k]?=some x):l.drop k=x::l.drop (k+1):=by
 obtain⟨hk,rfl⟩:=List.getElem?_eq_some_iff.1 h
 exact List.drop_eq_getElem_cons hk
theorem allE_any (F:Nat→Prop) (d:Nat) (ih:SizesE F d) (A:Option Addr) (n c:Nat) (es:List Ex) (lv:Int) (w:World) (h:ExsAt F d w A n c es) (h0:0≤lv) (h1:lv+d≤100000) :
  Calls Tryz.prog 81 #[.slice A n c,.int .i64 lv,.func (.func 82) #[] #[]] w fun x w'=>x=.returned (.agg #[.int .i64 (allZ lv (sizeE d lv) (0,0) es).1,.int .i64 (allZ lv (sizeE d lv) (0,0) es).2])∧Below w.heap.size w w':=by
 have hn:=h.n_le
 have Hlen:=Lhd h.len
 obtain⟨w2,Hw2⟩:∃ w2,Hid (w2=(w.alloc (.cells #[.int .i64 0,.int .i64 0] 129)).alloc (.cells #[.int .i64 0,.int .i64 0] 129)):=⟨_,rfl⟩
 have hb2:Below w.heap.size w w2:=by rw[Hw2.out];exact((Below.refl _ _).alloc (Nat.le_refl _) _).alloc (by simp) _
 have hr2:IsBlk w2 w.heap.size 129 #[.int .i64 0,.int .i64 0]:=by rw[Hw2.out];exact(IsBlk.laid _ _ _).alloc _
 have hs2:IsBlk w2 (w.heap.size+1) 129 #[.int .i64 0,.int .i64 0]:=by
  have:=IsBlk.laid (w.alloc (.cells #[.int .i64 0,.int .i64 0] 129)) 129 #[.int .i64 0,.int .i64 0]
  rw[Hw2.out];simpa using this
 go_enter Tryz.func81,Tryz.ntmps81
 go_wp2
 rw[← Hw2.out]
 go_loopw [12] (fun i wr=>∃ (k:Nat) (s:Int×Int),k≤n∧i=.int .i64 k∧IsBlk wr (w.heap.size+1) 129 #[.int .i64 s.1,.int .i64 s.2]∧IsBlk wr w.heap.size 129 #[.int .i64 0,.int .i64 0]∧Zok s ∧
  allZ lv (sizeE d lv) (0,0) es=allZ lv (sizeE d lv) s (es.drop k)∧Below w.heap.size w wr) (fun i _=>n-(intOf i).toNat)
 case atStart=>exact⟨0,(0,0),Nat.zero_le _,rfl,hs2,hr2,Zok.nought,rfl,hb2⟩
 case round =>
  obtain⟨k,⟨s1,s2⟩,hk,rfl,hs,hr,hz,heq,hb⟩:=hrel
  have Heq:=Lhd heq
  clear heq hs2 hr2 hb2 Hw2
  have hlt:=hr.lt
  have hlts:=hs.lt
  obtain⟨z1,z2,z3,z4⟩:=hz
  simp only at z1 z2 z3 z4
  have hr0:=hr.cell 0
  have hr1:=hr.cell 1
  have hs0:=hs.cell 0
  have hs1:=hs.cell 1
  simp at hr0 hr1 hs0 hs1
  have hrf:=hr.frozen
  by_cases hlt':k<n
  ·cases d with
   | zero =>
    obtain⟨b,o,r,e,hA,hbl,_,he,hl,hp,hc⟩:=LsAt.get (h.below hb) hlt'
    exact hp.elim
   | succ d =>
    obtain⟨b,o,e,A2,m2,c2,rfl,hbl,hek,hc0,hc1,hc2,hc3,hc4,hc5,hp,_⟩:=ExsAt.get (h.below hb) hlt'
    have Hd:=Lhd (drop_cons hek)
    clear hek
    have hf:=fun W (hk:IsBlk W (w.heap.size+1) 129 #[.int .i64 s1,.int .i64 s2])=>full_any (w.heap.size+1) s1 s2 W hk
    obtain⟨fl,Hfl⟩:∃ fl,Hid (fullZ (s1,s2)=fl):=⟨_,rfl⟩
    rw[Hfl.out] at hf
    have Hf:=Lhd hf
    clear hf
    have hsn:=hs.alloc (.cells #[.int .i64 e.op,.int .i64 e.n,.string e.s,.string e.name,.string e.src,.slice A2 m2 c2] 89)
    have hrn:=hr.alloc (.cells #[.int .i64 e.op,.int .i64 e.n,.string e.s,.string e.name,.string e.src,.slice A2 m2 c2] 89)
    have hbn:=hb.alloc hb.size (.cells #[.int .i64 e.op,.int .i64 e.n,.string e.s,.string e.name,.string e.src,.slice A2 m2 c2] 89)
    have hpn:=hp.below ((Below.refl wr.heap.size wr).alloc (Nat.le_refl _) (.cells #[.int .i64 e.op,.int .i64 e.n,.string e.s,.string e.name,.string e.src,.slice A2 m2 c2] 89))
    cases fl
    ·by_cases hlv:lv<1000
     ·go_wp2_with (first|(go_at_call 79;refine(Hf.out _ hsn).mono ?_;rintro x w' ⟨rfl,rfl⟩))
      have hz2:=sizeE_ok (d+1) lv e
      obtain⟨y1,y2,y3,y4⟩:=hz2
      have Hih:=Lhd (ih e _ lv _ hpn h0 (by omega))
      refine Hih.out.mono ?_
      rintro x w3 ⟨rfl,hb3⟩
      have hs3:=hsn.as_was (hb3.block _ hsn.lt)
      have hr3:=hrn.as_was (hb3.block _ hrn.lt)
      have hb03:=hbn.trans (hb3.mono hbn.size)
      go_wp2_with fail
      refine(add_any (w.heap.size+1) s1 s2 _ _ w3 hs3 z1 z2 y1 y2).mono ?_
      rintro x w4 ⟨rfl,hs4,hbut4⟩
      have hr4:=hr3.as_was (hbut4.block _ hr3.lt (by omega))
      have hb04:=hb03.trans (hbut4.below' hb03.size (fun i hi=>by omega))
      go_wp2
      go_roundw
      case rel=>exact⟨k+1,addZ (s1,s2) (sizeE (d+1) lv e),by omega,by go_num,hs4,hr4,Zok.add ⟨z1,z2,z3,z4⟩ ⟨y1,y2,y3,y4⟩,by rw[Heq.out,Hd.out,allZ,Hfl.out];simp;intro hh;omega,hb04⟩
      case measure=>simp[intOf];omega
     ·go_wp2_with (first|(go_at_call 79;refine(Hf.out _ hsn).mono ?_;rintro x w' ⟨rfl,rfl⟩))
      refine bodyPost_ret (v:=.agg #[.int .i64 1000,.int .i64 1000]) (by simp[results,Tryz.results81,go_sem,hr0,hr1,hlt]) rfl ⟨?_,((hb.setCell (p:=⟨w.heap.size,0,none⟩) (Nat.le_refl _) _).setCell (p:=⟨w.heap.size,1,none⟩) (Nat.le_refl _) _).alloc (by simpa using hb.size) _⟩
      rw[Heq.out,Hd.out,allZ,Hfl.out,if_pos (by simp;omega)]
    ·go_wp2_with (first|(go_at_call 79;refine(Hf.out _ hsn).mono ?_;rintro x w' ⟨rfl,rfl⟩))
     refine bodyPost_ret (v:=.agg #[.int .i64 1000,.int .i64 1000]) (by simp[results,Tryz.results81,go_sem,hr0,hr1,hlt]) rfl ⟨?_,((hb.setCell (p:=⟨w.heap.size,0,none⟩) (Nat.le_refl _) _).setCell (p:=⟨w.heap.size,1,none⟩) (Nat.le_refl _) _).alloc (by simpa using hb.size) _⟩
     rw[Heq.out,Hd.out,allZ,Hfl.out,if_pos (by simp)]
  ·go_wp2
   refine bodyPost_ret (v:=.agg #[.int .i64 s1,.int .i64 s2]) (by simp[results,Tryz.results81,go_sem,hr0,hr1]) rfl ⟨?_,(hb.setCell (p:=⟨w.heap.size,0,none⟩) (Nat.le_refl _) _).setCell (p:=⟨w.heap.size,1,none⟩) (Nat.le_refl _) _⟩
   rw[Heq.out,List.drop_of_length_le (by rw[Hlen.out];omega)]
   rfl
theorem laid_at {w:World} {g:Nat} (hg:g=w.heap.size) (T:TypeId) (cs:Array Value):IsBlk (w.alloc (.cells cs T)) g T cs:=by subst hg;exact IsBlk.laid _ _ _
theorem sizeE_any (F:Nat→Prop) (d:Nat):SizesE F d:=by
 induction d with
 | zero=>intro e row lv w h;exact h.elim
 | succ d ih =>
  intro e row lv w h h0 h1
  obtain⟨A,m,c,rfl,hl⟩:=h.open_.2.2.2.2.2
  have hb1:Below w.heap.size w (w.alloc (.cells #[.int .i64 e.op,.int .i64 e.n,.string e.s,.string e.name,.string e.src,.slice A m c] 89)):=(Below.refl _ _).alloc (Nat.le_refl _) _
  have hb2:=hb1.alloc hb1.size (.cells #[.int .i64 0,.int .i64 0] 129)
  have Hall:=Lhd (allE_any F d ih A m c e.args (lv+1) _ (hl.below hb2) (by omega) (by omega))
  obtain⟨y1,y2,y3,y4⟩:=Zok.all (lv:=lv+1) (l:=e.args) (sizeE_ok d (lv+1)) Zok.nought
  have hr2:IsBlk ((w.alloc (.cells #[.int .i64 e.op,.int .i64 e.n,.string e.s,.string e.name,.string e.src,.slice A m c] 89)).alloc (.cells #[.int .i64 0,.int .i64 0] 129)) (w.heap.size+1) 129 #[.int .i64 0,.int .i64 0]:=laid_at (by simp) _ _
  have Hr2:=Lhd hr2
  clear hr2
  go_enter Tryz.func82,Tryz.ntmps82
  go_wp2_with (first|(go_at_call 81;refine Hall.out.mono ?_;rintro x w3 ⟨rfl,hb3⟩;have hr3:=Hr2.out.as_was (hb3.block _ Hr2.out.lt);have hb03:=hb2.trans (hb3.mono hb2.size))|(go_at_call 83;refine(over_any _ _ _ y1 y3 y2 y4).mono ?_;rintro x w4 ⟨rfl,hb4⟩;have hr4:=hr3.as_was (hb4.block _ hr3.lt);have q0:=hr4.cell 0;have q1:=hr4.cell 1;simp at q0 q1;have qf:=hr4.frozen;have ql:=hr4.lt))
  have hb04:=hb03.trans (hb4.mono hb03.size)
  refine bodyPost_ret (v:=.agg #[.int .i64 (sizeE (d+1) lv e).1,.int .i64 (sizeE (d+1) lv e).2]) (by simp[results,Tryz.results82,go_sem,q0,q1,sizeE]) rfl ⟨rfl,(hb04.setCell (p:=⟨w.heap.size+1,0,none⟩) (by simp) _).setCell (p:=⟨w.heap.size+1,1,none⟩) (by simp) _⟩
def SizesS (F:Nat→Prop) (d:Nat):Prop:=∀ (e:St) (row:List Value) (lv:Int) (w:World),StAt F d w row e→0≤lv→lv+d≤100000 →
 Calls Tryz.prog 54 #[.agg row.toArray,.int .i64 lv] w fun x w'=>x=.returned (.agg #[.int .i64 (sizeS d lv e).1,.int .i64 (sizeS d lv e).2])∧Below w.heap.size w w'
theorem allS_any (F:Nat→Prop) (d:Nat) (ih:SizesS F d) (A:Option Addr) (n c:Nat) (es:List St) (lv:Int) (w:World) (h:StsAt F d w A n c es) (h0:0≤lv) (h1:lv+d≤100000) :
  Calls Tryz.prog 53 #[.slice A n c,.int .i64 lv,.func (.func 54) #[] #[]] w fun x w'=>x=.returned (.agg #[.int .i64 (allZ lv (sizeS d lv) (0,0) es).1,.int .i64 (allZ lv (sizeS d lv) (0,0) es).2])∧Below w.heap.size w w':=by
 have hn:=h.n_le
 have Hlen:=Lhd h.len
 obtain⟨w2,Hw2⟩:∃ w2,Hid (w2=(w.alloc (.cells #[.int .i64 0,.int .i64 0] 129)).alloc (.cells #[.int .i64 0,.int .i64 0] 129)):=⟨_,rfl⟩
 have hb2:Below w.heap.size w w2:=by rw[Hw2.out];exact((Below.refl _ _).alloc (Nat.le_refl _) _).alloc (by simp) _
 have hr2:IsBlk w2 w.heap.size 129 #[.int .i64 0,.int .i64 0]:=by rw[Hw2.out];exact(IsBlk.laid _ _ _).alloc _
 have hs2:IsBlk w2 (w.heap.size+1) 129 #[.int .i64 0,.int .i64 0]:=by
  have:=IsBlk.laid (w.alloc (.cells #[.int .i64 0,.int .i64 0] 129)) 129 #[.int .i64 0,.int .i64 0]
  rw[Hw2.out];simpa using this
 go_enter Tryz.func53,Tryz.ntmps53
 go_wp2
 rw[← Hw2.out]
 go_loopw [12] (fun i wr=>∃ (k:Nat) (s:Int×Int),k≤n∧i=.int .i64 k∧IsBlk wr (w.heap.size+1) 129 #[.int .i64 s.1,.int .i64 s.2]∧IsBlk wr w.heap.size 129 #[.int .i64 0,.int .i64 0]∧Zok s ∧
  allZ lv (sizeS d lv) (0,0) es=allZ lv (sizeS d lv) s (es.drop k)∧Below w.heap.size w wr) (fun i _=>n-(intOf i).toNat)
 case atStart=>exact⟨0,(0,0),Nat.zero_le _,rfl,hs2,hr2,Zok.nought,rfl,hb2⟩
 case round =>
  obtain⟨k,⟨s1,s2⟩,hk,rfl,hs,hr,hz,heq,hb⟩:=hrel
  have Heq:=Lhd heq
  clear heq hs2 hr2 hb2 Hw2
  have hlt:=hr.lt
  have hlts:=hs.lt
  obtain⟨z1,z2,z3,z4⟩:=hz
  simp only at z1 z2 z3 z4
  have hr0:=hr.cell 0
  have hr1:=hr.cell 1
  have hs0:=hs.cell 0
  have hs1:=hs.cell 1
  simp at hr0 hr1 hs0 hs1
  have hrf:=hr.frozen
  by_cases hlt':k<n
  ·cases d with
   | zero =>
    obtain⟨b,o,r,e,hA,hbl,_,he,hl,hp,hc⟩:=LsAt.get (h.below hb) hlt'
    exact hp.elim
   | succ d =>
    obtain⟨b,o,e,Ac,nc,cc,Ae,ne,ce,Ab,nb,cb,Al,nl,cl,rfl,hbl,hek,hc0,hc1,hc2,hc3,hc4,hc5,hc6,hc7,hp,_⟩:=StsAt.get (h.below hb) hlt'
    have Hd:=Lhd (drop_cons hek)
    clear hek
    have hf:=fun W (hk:IsBlk W (w.heap.size+1) 129 #[.int .i64 s1,.int .i64 s2])=>full_any (w.heap.size+1) s1 s2 W hk
    obtain⟨fl,Hfl⟩:∃ fl,Hid (fullZ (s1,s2)=fl):=⟨_,rfl⟩
    rw[Hfl.out] at hf
    have Hf:=Lhd hf
    clear hf
    have hsn:=hs.alloc (.cells #[.int .i64 e.op,.string e.name,.string e.src,.int .i64 e.n,.slice Ac nc cc,.slice Ae ne ce,.slice Ab nb cb,.slice Al nl cl] 65)
    have hrn:=hr.alloc (.cells #[.int .i64 e.op,.string e.name,.string e.src,.int .i64 e.n,.slice Ac nc cc,.slice Ae ne ce,.slice Ab nb cb,.slice Al nl cl] 65)
    have hbn:=hb.alloc hb.size (.cells #[.int .i64 e.op,.string e.name,.string e.src,.int .i64 e.n,.slice Ac nc cc,.slice Ae ne ce,.slice Ab nb cb,.slice Al nl cl] 65)
    have hpn:=hp.below ((Below.refl wr.heap.size wr).alloc (Nat.le_refl _) (.cells #[.int .i64 e.op,.string e.name,.string e.src,.int .i64 e.n,.slice Ac nc cc,.slice Ae ne ce,.slice Ab nb cb,.slice Al nl cl] 65))
    cases fl
    ·by_cases hlv:lv<1000
     ·go_wp2_with (first|(go_at_call 79;refine(Hf.out _ hsn).mono ?_;rintro x w' ⟨rfl,rfl⟩))
      have hz2:=sizeS_ok (d+1) lv e
      obtain⟨y1,y2,y3,y4⟩:=hz2
      have Hih:=Lhd (ih e _ lv _ hpn h0 (by omega))
      refine Hih.out.mono ?_
      rintro x w3 ⟨rfl,hb3⟩
      have hs3:=hsn.as_was (hb3.block _ hsn.lt)
      have hr3:=hrn.as_was (hb3.block _ hrn.lt)
      have hb03:=hbn.trans (hb3.mono hbn.size)
      go_wp2_with fail
      refine(add_any (w.heap.size+1) s1 s2 _ _ w3 hs3 z1 z2 y1 y2).mono ?_
      rintro x w4 ⟨rfl,hs4,hbut4⟩
      have hr4:=hr3.as_was (hbut4.block _ hr3.lt (by omega))
      have hb04:=hb03.trans (hbut4.below' hb03.size (fun i hi=>by omega))
      go_wp2
      go_roundw
      case rel=>exact⟨k+1,addZ (s1,s2) (sizeS (d+1) lv e),by omega,by go_num,hs4,hr4,Zok.add ⟨z1,z2,z3,z4⟩ ⟨y1,y2,y3,y4⟩,by rw[Heq.out,Hd.out,allZ,Hfl.out];simp;intro hh;omega,hb04⟩
      case measure=>simp[intOf];omega
     ·go_wp2_with (first|(go_at_call 79;refine(Hf.out _ hsn).mono ?_;rintro x w' ⟨rfl,rfl⟩))
      refine bodyPost_ret (v:=.agg #[.int .i64 1000,.int .i64 1000]) (by simp[results,Tryz.results53,go_sem,hr0,hr1,hlt]) rfl ⟨?_,((hb.setCell (p:=⟨w.heap.size,0,none⟩) (Nat.le_refl _) _).setCell (p:=⟨w.heap.size,1,none⟩) (Nat.le_refl _) _).alloc (by simpa using hb.size) _⟩
      rw[Heq.out,Hd.out,allZ,Hfl.out,if_pos (by simp;omega)]
    ·go_wp2_with (first|(go_at_call 79;refine(Hf.out _ hsn).mono ?_;rintro x w' ⟨rfl,rfl⟩))
     refine bodyPost_ret (v:=.agg #[.int .i64 1000,.int .i64 1000]) (by simp[results,Tryz.results53,go_sem,hr0,hr1,hlt]) rfl ⟨?_,((hb.setCell (p:=⟨w.heap.size,0,none⟩) (Nat.le_refl _) _).setCell (p:=⟨w.heap.size,1,none⟩) (Nat.le_refl _) _).alloc (by simpa using hb.size) _⟩
     rw[Heq.out,Hd.out,allZ,Hfl.out,if_pos (by simp)]
  ·go_wp2
   refine bodyPost_ret (v:=.agg #[.int .i64 s1,.int .i64 s2]) (by simp[results,Tryz.results53,go_sem,hr0,hr1]) rfl ⟨?_,(hb.setCell (p:=⟨w.heap.size,0,none⟩) (Nat.le_refl _) _).setCell (p:=⟨w.heap.size,1,none⟩) (Nat.le_refl _) _⟩
   rw[Heq.out,List.drop_of_length_le (by rw[Hlen.out];omega)]
   rfl
theorem sizeS_any (F:Nat→Prop) (d:Nat):SizesS F d:=by
 induction d with
 | zero=>intro e row lv w h;exact h.elim
 | succ d ih =>
  intro e row lv w h h0 h1
  obtain⟨Ac,nc,cc,Ae,ne,ce,Ab,nb,cb,Al,nl,cl,rfl,hcl,hel,hbl,hll⟩:=h.open_.2.2.2.2
  have hb1:Below w.heap.size w (w.alloc (.cells #[.int .i64 e.op,.string e.name,.string e.src,.int .i64 e.n,.slice Ac nc cc,.slice Ae ne ce,.slice Ab nb cb,.slice Al nl cl] 65)):=(Below.refl _ _).alloc (Nat.le_refl _) _
  have hb2:=hb1.alloc hb1.size (.cells #[.int .i64 0,.int .i64 0] 129)
  have hr2:IsBlk ((w.alloc (.cells #[.int .i64 e.op,.string e.name,.string e.src,.int .i64 e.n,.slice Ac nc cc,.slice Ae ne ce,.slice Ab nb cb,.slice Al nl cl] 65)).alloc (.cells #[.int .i64 0,.int .i64 0] 129)) (w.heap.size+1) 129 #[.int .i64 0,.int .i64 0]:=laid_at (by simp) _ _
  have hx2:IsBlk ((w.alloc (.cells #[.int .i64 e.op,.string e.name,.string e.src,.int .i64 e.n,.slice Ac nc cc,.slice Ae ne ce,.slice Ab nb cb,.slice Al nl cl] 65)).alloc (.cells #[.int .i64 0,.int .i64 0] 129)) w.heap.size 65 #[.int .i64 e.op,.string e.name,.string e.src,.int .i64 e.n,.slice Ac nc cc,.slice Ae ne ce,.slice Ab nb cb,.slice Al nl cl]:=(IsBlk.laid _ _ _).alloc _
  have Hall:=Lhd (allE_any F d (sizeE_any F d) Ae ne ce e.exprs (lv+1) _ (hel.below hb2) (by omega) (by omega))
  have HallB:=Lhd (fun W (hW:Below w.heap.size w W)=>allS_any F d ih Ab nb cb e.body (lv+1) W (hbl.below hW) (by omega) (by omega))
  have HallL:=Lhd (fun W (hW:Below w.heap.size w W)=>allS_any F d ih Al nl cl e.els (lv+1) W (hll.below hW) (by omega) (by omega))
  have ze:=Zok.all (lv:=lv+1) (l:=e.exprs) (sizeE_ok d (lv+1)) Zok.nought
  have zb:=Zok.all (lv:=lv+1) (l:=e.body) (sizeS_ok d (lv+1)) Zok.nought
  have zl:=Zok.all (lv:=lv+1) (l:=e.els) (sizeS_ok d (lv+1)) Zok.nought
  have hfin:overZ (addZ (addZ (allZ (lv+1) (sizeE d (lv+1)) (0,0) e.exprs) (allZ (lv+1) (sizeS d (lv+1)) (0,0) e.body)) (allZ (lv+1) (sizeS d (lv+1)) (0,0) e.els))=sizeS (d+1) lv e:=rfl
  have Hr2:=Lhd hr2
  have Hx2:=Lhd hx2
  generalize allZ (lv+1) (sizeE d (lv+1)) (0,0) e.exprs=sE at *
  generalize allZ (lv+1) (sizeS d (lv+1)) (0,0) e.body=sB at *
  generalize allZ (lv+1) (sizeS d (lv+1)) (0,0) e.els=sL at *
  generalize sizeS (d+1) lv e=fin at *
  have z1:=ze.add zb
  have z2:=z1.add zl
  have Hfin:=Lhd hfin
  clear hfin hr2 hx2 ih
  obtain⟨e1,e2⟩:=sE
  obtain⟨b1,b2⟩:=sB
  obtain⟨l1,l2⟩:=sL
  go_enter Tryz.func54,Tryz.ntmps54
  go_wp2_with fail
  refine Hall.out.mono ?_
  rintro x w3 ⟨rfl,hb3⟩
  have hr3:=Hr2.out.as_was (hb3.block _ Hr2.out.lt)
  have hx3:=Hx2.out.as_was (hb3.block _ Hx2.out.lt)
  have hb03:=hb2.trans (hb3.mono hb2.size)
  have hx6:=hx3.cell 6
  simp at hx6
  have hs4:IsBlk (w3.alloc (.cells #[.int .i64 e1,.int .i64 e2] 129)) w3.heap.size 129 #[.int .i64 e1,.int .i64 e2]:=laid_at rfl _ _
  have hb04:=hb03.alloc hb03.size (.cells #[.int .i64 e1,.int .i64 e2] 129)
  have hr4:=hr3.alloc (.cells #[.int .i64 e1,.int .i64 e2] 129)
  have hx4:=hx3.alloc (.cells #[.int .i64 e1,.int .i64 e2] 129)
  have hlt3:=hx3.lt
  have hlt3r:=hr3.lt
  go_wp2_with fail
  refine(HallB.out _ hb04).mono ?_
  rintro x w5 ⟨rfl,hb5⟩
  have hs5:=hs4.as_was (hb5.block _ hs4.lt)
  have hr5:=hr4.as_was (hb5.block _ hr4.lt)
  have hx5:=hx4.as_was (hb5.block _ hx4.lt)
  have hb05:=hb04.trans (hb5.mono hb04.size)
  go_wp2_with fail
  refine(add_any _ e1 e2 b1 b2 w5 hs5 ze.1 ze.2.1 zb.1 zb.2.1).mono ?_
  rintro x w6 ⟨rfl,hs6,hbut6⟩
  have hr6:=hr5.as_was (hbut6.block _ hr5.lt (fun h=>by have h:w.heap.size+1=w3.heap.size:=h;omega))
  have hx6':=hx5.as_was (hbut6.block _ hx5.lt (fun h=>by have h:w.heap.size=w3.heap.size:=h;omega))
  have hb06:=hb05.trans (hbut6.below' hb05.size (fun i hi=>by omega))
  have hx67:=hx6'.cell 7
  simp at hx67
  generalize addZ (e1,e2) (b1,b2)=sq at *
  obtain⟨q1,q2⟩:=sq
  go_wp2_with fail
  refine(HallL.out _ hb06).mono ?_
  rintro x w7 ⟨rfl,hb7⟩
  have hs7:=hs6.as_was (hb7.block _ hs6.lt)
  have hr7:=hr6.as_was (hb7.block _ hr6.lt)
  have hb07:=hb06.trans (hb7.mono hb06.size)
  go_wp2_with fail
  refine(add_any _ q1 q2 l1 l2 w7 hs7 z1.1 z1.2.1 zl.1 zl.2.1).mono ?_
  rintro x w8 ⟨rfl,hs8,hbut8⟩
  have hr8:=hr7.as_was (hbut8.block _ hr7.lt (fun h=>by have h:w.heap.size+1=w3.heap.size:=h;omega))
  have hb08:=hb07.trans (hbut8.below' hb07.size (fun i hi=>by omega))
  generalize addZ (q1,q2) (l1,l2)=sr at *
  obtain⟨r1,r2⟩:=sr
  have hs80:=hs8.cell 0
  have hs81:=hs8.cell 1
  simp at hs80 hs81
  go_wp2_with fail
  refine(over_any r1 r2 w8 z2.1 z2.2.2.1 z2.2.1 z2.2.2.2).mono ?_
  rintro x w9 ⟨rfl,hb9⟩
  have hr9:=hr8.as_was (hb9.block _ hr8.lt)
  have g0:=hr9.cell 0
  have g1:=hr9.cell 1
  simp at g0 g1
  have qf:=hr9.frozen
  have ql:=hr9.lt
  have hb09:=hb08.trans (hb9.mono hb08.size)
  rw[Hfin.out]
  obtain⟨f1,f2⟩:=fin
  go_wp2_with fail
  refine bodyPost_ret (v:=.agg #[.int .i64 f1,.int .i64 f2]) (by simp[results,Tryz.results54,go_sem,g0,g1]) rfl ⟨rfl,(hb09.setCell (p:=⟨w.heap.size+1,0,none⟩) (by simp) _).setCell (p:=⟨w.heap.size+1,1,none⟩) (by simp) _⟩
def posB {α:Type} (p:α→Bool):List α→Int
 | []=>-1
 | x::r=>if p x then 0 else if posB p r = -1 then -1 else posB p r+1
theorem posB_range {α:Type} (p:α→Bool) (l:List α):posB p l = -1∨(0≤posB p l∧posB p l<l.length):=by
 induction l with
 | nil=>exact .inl rfl
 | cons x r ih =>
  unfold posB
  split
  ·right;simp
  ·split
   ·exact .inl rfl
   ·right;simp only[List.length_cons];omega
theorem posB_any {α:Type} (p:α→Bool) (l:List α):decide (0≤posB p l)=l.any p:=by
 induction l with
 | nil=>rfl
 | cons x r ih =>
  have hr:=posB_range p r
  unfold posB
  rw[List.any_cons,← ih]
  cases hp:p x with
  | true=>simp
  | false =>
   simp only[Bool.false_eq_true,if_false,Bool.false_or]
   split<;>simp<;>omega
theorem posB_yes {α:Type} {p:α→Bool} {l:List α} {k:Nat} {x:α} (hk:l[k]?=some x) (he:p x=true) (hp:∀ y∈l.take k,p y=false):posB p l=k:=by
 induction l generalizing k with
 | nil=>simp at hk
 | cons y r ih =>
  cases k with
  | zero=>simp at hk;subst hk;simp[posB,he]
  | succ k =>
   have h1:=ih (k:=k) (by simpa using hk) (fun z hz=>hp z (by simp[hz]))
   rw[posB,hp y (by simp),h1]
   simp
theorem posB_no {α:Type} {p:α→Bool} {l:List α} (hp:∀ y∈l,p y=false):posB p l = -1:=by
 induction l with
 | nil=>rfl
 | cons y r ih=>rw[posB,hp y (by simp),ih fun z hz=>hp z (by simp[hz])];simp
theorem mem_take_succ {α:Type} {l:List α} {k:Nat} {x:α} (h:l[k]?=some x) {P:α→Prop} (h1:∀ y∈l.take k,P y) (h2:P x):∀ y∈l.take (k+1),P y:=by
 obtain⟨hk,rfl⟩:=List.getElem?_eq_some_iff.1 h
 intro y hy
 rw[List.take_succ_eq_append_getElem hk,List.mem_append] at hy
 rcases hy with hy|hy
 ·exact h1 y hy
 ·rw[List.mem_singleton.1 hy];exact h2
theorem strAt {F:Nat→Prop} {w:World} {A:Option Addr} {n c:Nat} {xs:List ByteArray} (h:LsAt F w 1 SRow A n c xs) {k:Nat} (hk:k<n):∃ b o x,A=some ⟨b,o,none⟩∧b<w.heap.size∧xs[k]?=some x∧okS x∧w.cell? ⟨b,o+k,none⟩=some (.string x):=by
 obtain⟨b,o,r,x,hA,hb,_,hx,hl,⟨rfl,hs⟩,hc⟩:=h.get hk
 exact⟨b,o,x,hA,hb,hx,hs,by simpa using hc 0 _ rfl⟩
theorem indexS_any (F:Nat→Prop) (A:Option Addr) (n c:Nat) (xs:List ByteArray) (s:ByteArray) (w:World) (h:LsAt F w 1 SRow A n c xs) :
  Calls Tryz.prog 114 #[.slice A n c,.string s] w fun x w'=>x=.returned (.int .i64 (posB (fun y=>s.toList==y.toList) xs))∧w=w':=by
 have hn:=h.n_le
 have Hl:=Lhd h.len
 go_enter Tryz.func114,Tryz.ntmps114
 go_wp2
 go_loop [8] (fun i=>∃ k:Nat,k≤n∧i=.int .i64 k∧∀ y∈xs.take k,(s.toList==y.toList)=false) (fun i=>n-(intOf i).toNat)
 case atStart=>exact⟨0,Nat.zero_le _,rfl,by simp⟩
 case round =>
  obtain⟨k,hk,rfl,hno⟩:=hrel
  have Hno:=Lhd hno;clear hno
  by_cases hlt:k<n
  ·obtain⟨b,o,x,rfl,hbl,hx,hs,hc0⟩:=strAt h hlt
   have Hx:=Lhd hx;clear hx
   by_cases he:(s.toList==x.toList)=true
   ·have Hf:=Lhd (posB_yes (p:=fun y=>s.toList==y.toList) Hx.out he Hno.out)
    go_wp2
    go_ret
    exact⟨by rw[Hf.out];rfl,rfl⟩
   ·have he:(s.toList==x.toList)=false:=by simpa using he
    have Hne:=Lhd (mem_take_succ Hx.out Hno.out he)
    go_wp2
    go_round
    case rel=>exact⟨k+1,by omega,by go_num,Hne.out⟩
    case measure=>simp[intOf];omega
  ·go_wp2
   go_ret
   have h1:=Hno.out
   rw[List.take_of_length_le (by rw[Hl.out];omega)] at h1
   exact⟨by rw[posB_no h1];rfl,rfl⟩
theorem containsS_any (F:Nat→Prop) (A:Option Addr) (n c:Nat) (xs:List ByteArray) (s:ByteArray) (w:World) (h:LsAt F w 1 SRow A n c xs) :
  Calls Tryz.prog 87 #[.slice A n c,.string s] w fun x w'=>x=.returned (.bool (xs.any fun y=>s.toList==y.toList))∧w=w':=by
 have hi:=indexS_any F A n c xs s w h
 have hp:=posB_any (fun y=>s.toList==y.toList) xs
 generalize xs.any (fun y=>s.toList==y.toList)=r at *
 generalize posB (fun y=>s.toList==y.toList) xs=i at *
 have Hp:=Lhd hp
 have Hi:=Lhd hi
 clear hp hi
 go_enter Tryz.func87,Tryz.ntmps87
 go_wp2_with (go_at_call 114;refine Hi.out.mono ?_;rintro x w' ⟨rfl,rfl⟩)
 go_ret
 exact⟨ret_bool Hp.out,rfl⟩
theorem words_any (w:World):Calls Tryz.prog 133 #[] w fun x w'=>x=.returned (.slice (some ⟨w.heap.size,0,none⟩) 43 43)∧LsAt (fun b=>b=w.heap.size) w' 1 SRow (some ⟨w.heap.size,0,none⟩) 43 43 wordsL∧Below w.heap.size w w':=by
 go_enter Tryz.func133,Tryz.ntmps133
 go_wp2
 go_ret
 refine⟨rfl,⟨wordsL.map fun s=>[.string s],RowsAt.lit _ _ 43 rfl (by simp) rfl (by unfold maxLen;omega),fun a ha _=>?_,rfl,fun k r x hr hx=>?_⟩,(Below.refl _ _).alloc (Nat.le_refl _) _⟩
 ·injection ha with ha;subst ha;rfl
 ·rw[List.getElem?_map,hx] at hr
  simp at hr
  subst hr
  refine⟨rfl,rfl,?_⟩
  have:∀ y∈wordsL,okS y:=by unfold okS;decide +kernel
  exact this x (List.mem_of_getElem? hx)
theorem reserved_any (s:ByteArray) (w:World):Calls Tryz.prog 111 #[.string s] w fun x w'=>x=.returned (.bool (resB s))∧Below w.heap.size w w':=by
 have hr:(wordsL.any fun y=>s.toList==y.toList)=resB s:=by
  unfold resB
  congr 1
  funext x
  exact BEq.comm
 go_enter Tryz.func111,Tryz.ntmps111
 have Hr:=Lhd hr
 clear hr
 go_wp2_with (first|(go_at_call 133;refine(words_any _).mono ?_;rintro x w1 ⟨rfl,hl,hb1⟩)|(go_at_call 87;refine(containsS_any _ _ _ _ _ _ _ hl).mono ?_;rw[Hr.out];rintro x w' ⟨rfl,rfl⟩))
 go_ret
 exact⟨rfl,hb1⟩
theorem letter_any (c:UInt8) (w:World):Calls Tryz.prog 153 #[.int .u8 (c.toNat:Int)] w fun x w'=>x=.returned (.bool (letterB c))∧w=w':=by
 go_enter Tryz.func153,Tryz.ntmps153
 go_wp2
 all_goals
  go_ret
  refine⟨ret_bool ?_,rfl⟩
  rw[Bool.eq_iff_iff]
  simp[letterB]
  omega
theorem part_any (c:UInt8) (w:World):Calls Tryz.prog 154 #[.int .u8 (c.toNat:Int)] w fun x w'=>x=.returned (.bool (partB c))∧w=w':=by
 cases hl:letterB c with
 | true =>
  have h:=letter_any c w
  rw[hl] at h
  have H:=Lhd h
  have Hl:=Lhd hl
  clear h hl
  go_enter Tryz.func154,Tryz.ntmps154
  go_wp2_with (go_at_call 153;refine H.out.mono ?_;rintro x w' ⟨rfl,rfl⟩)
  all_goals
   go_ret
   refine⟨ret_bool ?_,rfl⟩
   simp[partB,Hl.out]
 | false =>
  have h:=letter_any c w
  rw[hl] at h
  have H:=Lhd h
  have Hl:=Lhd hl
  clear h hl
  go_enter Tryz.func154,Tryz.ntmps154
  go_wp2_with (go_at_call 153;refine H.out.mono ?_;rintro x w' ⟨rfl,rfl⟩)
  all_goals
   go_ret
   refine⟨ret_bool ?_,rfl⟩
   rw[Bool.eq_iff_iff]
   simp[partB,Hl.out]
   omega
theorem bytesBelow (w:World) (e:TypeId) (s:ByteArray):Below w.heap.size w (Lib.bytesWorld w e s):=by
 refine⟨?_,?_,?_,by rw[Lib.bytesWorld_size];omega,fun k hk=>Lib.bytesWorld_at_old w e s k hk⟩
 ·simp[Lib.bytesWorld,World.freeze];rfl
 ·simp[Lib.bytesWorld,World.freeze]
 ·simp[Lib.bytesWorld,World.freeze];rfl
theorem list_of (s:ByteArray) (h:0<s.size):∃ c r,s.data.toList=c::r∧s[0]=c∧r.length+1=s.size:=by
 have hl:s.data.toList.length=s.size:=by simp
 have h2:s.data.toList[0]?=some s[0]:=by
  rw[List.getElem?_eq_getElem (by rw[hl];exact h)];rfl
 match hs:s.data.toList,hl with
 | [],hl=>simp at hl;omega
 | c::r,hl =>
  refine⟨c,r,rfl,?_,by simpa using hl⟩
  rw[hs] at h2
  exact(Option.some.inj h2).symm
theorem letter_part {c:UInt8} (h:letterB c=true):partB c=true:=by simp[partB,h]
theorem bytes_nil (s:ByteArray):s.toList=[] ↔ s.size=0:=by
 rw[ByteArray.toList_eq,← List.length_eq_zero_iff]
 simp
theorem named_any (s:ByteArray) (w:World):Calls Tryz.prog 131 #[.string s] w fun x w'=>x=.returned (.bool (namedB s))∧Below w.heap.size w w':=by
 by_cases h0:s.size=0
 ·have hn:namedB s=false:=by
   unfold namedB
   have:s.data.toList=[]:=List.eq_nil_of_length_eq_zero (by simpa using h0)
   rw[this]
  have Hn:=Lhd hn
  have he:s.toList=[]:=(bytes_nil s).2 h0
  clear h0 hn
  go_enter Tryz.func131,Tryz.ntmps131
  go_wp2
  go_ret
  exact⟨by rw[Hn.out];rfl,Below.refl _ _⟩
 ·have he:s.toList.isEmpty=false:=by
   cases hx:s.toList with
   | nil=>exact absurd ((bytes_nil s).1 hx) h0
   | cons a l=>rfl
  have hpos:0<s.size:=by omega
  obtain⟨c,r,hs,hc,hl⟩:=list_of s hpos
  have Hs:=Lhd hs
  clear hs
  by_cases h16:16<s.size
  ·have hn:namedB s=false:=by
    unfold namedB
    rw[Hs.out]
    simp;omega
   have Hn:=Lhd hn
   have h17:(16:Int)<(s.size:Int):=by omega
   clear hn hc hl h0
   go_enter Tryz.func131,Tryz.ntmps131
   go_wp2
   go_ret
   exact⟨by rw[Hn.out];rfl,Below.refl _ _⟩
  ·have hL:=letter_any s[0] w
   rw[hc] at hL
   have hn:namedB s=(letterB c&&r.all partB):=by
    unfold namedB
    rw[Hs.out]
    have h3:decide (r.length+1≤16)=true:=by simp;omega
    simp only[h3,Bool.true_and]
   obtain⟨q,hq⟩:∃ q,letterB c=q:=⟨_,rfl⟩
   rw[hq] at hL hn
   have Hl:=Lhd hL
   have Hq:=Lhd hq
   have Hc:=Lhd hc
   have Hlen:=Lhd hl
   have Hn:=Lhd hn
   clear hL hq hc hl hn h0
   have hle:(s.size:Int)≤16:=by omega
   cases q
   ·go_enter Tryz.func131,Tryz.ntmps131
    go_wp2_with (go_at_call 153;rw[Hc.out];refine Hl.out.mono ?_;rintro x w' ⟨rfl,rfl⟩)
    go_ret
    exact⟨by rw[Hn.out];rfl,Below.refl _ _⟩
   ·have hcv:=fun (W:World)=>Lib.run_convert_string_bytes (P:=Tryz.prog) W 9 114 5 s Tryz.underlying9 Tryz.underlying114 Tryz.underlying5
    have hcell:=Lib.bytesWorld_cell w 5 s
    have Hcell:=Lhd hcell
    clear hcell
    have hbel:=bytesBelow w 5 s
    go_enter Tryz.func131,Tryz.ntmps131
    go_wp2_with (go_at_call 153;rw[Hc.out];refine Hl.out.mono ?_;rintro x w' ⟨rfl,rfl⟩)
    generalize Lib.bytesWorld w 5 s=wb at *
    go_loop [21] (fun i=>∃ k:Nat,k≤s.size∧i=.int .i64 k∧∀ y∈s.data.toList.take k,partB y=true) (fun i=>s.size-(intOf i).toNat)
    case atStart=>exact⟨0,Nat.zero_le _,rfl,by simp⟩
    case round =>
     obtain⟨k,hk,rfl,hall⟩:=hrel
     have Hall:=Lhd hall
     clear hall hcv
     by_cases hlt:k<s.size
     ·have hc1:=Hcell.out k hlt
      obtain⟨y,hy⟩:∃ y,s.data.toList[k]?=some y:=⟨_,List.getElem?_eq_getElem (by simpa using hlt)⟩
      rw[List.getD_eq_getElem?_getD,hy,Option.getD_some] at hc1
      have Hy:=Lhd hy
      have hp:=part_any y wb
      obtain⟨z,hz⟩:∃ z,partB y=z:=⟨_,rfl⟩
      rw[hz] at hp
      have Hp:=Lhd hp
      have Hz:=Lhd hz
      clear hp hz hy
      cases z
      ·go_wp2_with (go_at_call 154;refine Hp.out.mono ?_;rintro x w' ⟨rfl,rfl⟩)
       go_ret
       refine⟨?_,hbel⟩
       rw[Hn.out]
       have hm:=List.mem_of_getElem? Hy.out
       rw[Hs.out] at hm
       refine ret_bool ?_
       rw[Bool.true_and,eq_comm,List.all_eq_false]
       rcases List.mem_cons.1 hm with rfl|hm
       ·have:=letter_part Hq.out
        rw[Hz.out] at this;cases this
       ·exact⟨y,hm,by rw[Hz.out];simp⟩
      ·have Hnx:=Lhd (mem_take_succ Hy.out Hall.out Hz.out)
       go_wp2_with (go_at_call 154;refine Hp.out.mono ?_;rintro x w' ⟨rfl,rfl⟩)
       go_round
       case rel=>exact⟨k+1,by omega,by go_num,Hnx.out⟩
       case measure=>simp[intOf];omega
     ·go_wp2
      go_ret
      refine⟨?_,hbel⟩
      have h1:=Hall.out
      rw[List.take_of_length_le (by simp;omega),Hs.out] at h1
      rw[Hn.out]
      refine ret_bool ?_
      rw[Bool.true_and,eq_comm,List.all_eq_true]
      exact fun z hz=>h1 z (by simp[hz])
theorem namedL_any (F:Nat→Prop) (A:Option Addr) (n c:Nat) (xs:List ByteArray) (w:World) (h:LsAt F w 1 SRow A n c xs) :
  Calls Tryz.prog 109 #[.slice A n c] w fun x w'=>x=.returned (.bool (xs.all namedB))∧Below w.heap.size w w':=by
 have hn:=h.n_le
 have Hl:=Lhd h.len
 go_enter Tryz.func109,Tryz.ntmps109
 go_wp2
 go_loopw [7] (fun i wr=>∃ k:Nat,k≤n∧i=.int .i64 k∧(∀ y∈xs.take k,namedB y=true)∧Below w.heap.size w wr) (fun i _=>n-(intOf i).toNat)
 case atStart=>exact⟨0,Nat.zero_le _,rfl,by simp,Below.refl _ _⟩
 case round =>
  obtain⟨k,hk,rfl,hall,hb⟩:=hrel
  have Hall:=Lhd hall;clear hall
  by_cases hlt:k<n
  ·obtain⟨b,o,x,rfl,hbl,hx,hs,hc0⟩:=strAt (h.below hb) hlt
   have hc:=named_any x wr
   obtain⟨q,hq⟩:∃ q,namedB x=q:=⟨_,rfl⟩
   rw[hq] at hc
   have Hc:=Lhd hc
   have Hq:=Lhd hq
   have Hx:=Lhd hx
   clear hc hq hx
   cases q
   ·go_wp2_with (go_at_call 131;refine Hc.out.mono ?_;rintro y w1 ⟨rfl,hb1⟩)
    go_ret
    refine⟨ret_bool ?_,hb.trans (hb1.mono hb.size)⟩
    rw[eq_comm,List.all_eq_false]
    exact⟨x,List.mem_of_getElem? Hx.out,by rw[Hq.out];simp⟩
   ·have Hnx:=Lhd (mem_take_succ Hx.out Hall.out Hq.out)
    go_wp2_with (go_at_call 131;refine Hc.out.mono ?_;rintro y w1 ⟨rfl,hb1⟩)
    go_roundw
    case rel=>exact⟨k+1,by omega,by go_num,Hnx.out,hb.trans (hb1.mono hb.size)⟩
    case measure=>simp[intOf];omega
  ·go_wp2
   go_ret
   refine⟨ret_bool ?_,hb⟩
   have h1:=Hall.out
   rw[List.take_of_length_le (by rw[Hl.out];omega)] at h1
   rw[eq_comm,List.all_eq_true]
   exact h1
theorem indexRes_any (F:Nat→Prop) (A:Option Addr) (n c:Nat) (xs:List ByteArray) (w:World) (h:LsAt F w 1 SRow A n c xs) :
  Calls Tryz.prog 132 #[.slice A n c,.func (.func 111) #[] #[]] w fun x w'=>x=.returned (.int .i64 (posB resB xs))∧Below w.heap.size w w':=by
 have hn:=h.n_le
 have Hl:=Lhd h.len
 go_enter Tryz.func132,Tryz.ntmps132
 go_wp2
 go_loopw [8] (fun i wr=>∃ k:Nat,k≤n∧i=.int .i64 k∧(∀ y∈xs.take k,resB y=false)∧Below w.heap.size w wr) (fun i _=>n-(intOf i).toNat)
 case atStart=>exact⟨0,Nat.zero_le _,rfl,by simp,Below.refl _ _⟩
 case round =>
  obtain⟨k,hk,rfl,hall,hb⟩:=hrel
  have Hall:=Lhd hall;clear hall
  by_cases hlt:k<n
  ·obtain⟨b,o,x,rfl,hbl,hx,hs,hc0⟩:=strAt (h.below hb) hlt
   have hc:=reserved_any x wr
   obtain⟨q,hq⟩:∃ q,resB x=q:=⟨_,rfl⟩
   rw[hq] at hc
   have Hc:=Lhd hc
   have Hq:=Lhd hq
   have Hx:=Lhd hx
   clear hc hq hx
   cases q
   ·have Hnx:=Lhd (mem_take_succ Hx.out Hall.out Hq.out)
    go_wp2_with (go_at_call 111;refine Hc.out.mono ?_;rintro y w1 ⟨rfl,hb1⟩)
    go_roundw
    case rel=>exact⟨k+1,by omega,by go_num,Hnx.out,hb.trans (hb1.mono hb.size)⟩
    case measure=>simp[intOf];omega
   ·have Hf:=Lhd (posB_yes Hx.out Hq.out Hall.out)
    go_wp2_with (go_at_call 111;refine Hc.out.mono ?_;rintro y w1 ⟨rfl,hb1⟩)
    go_ret
    exact⟨by rw[Hf.out];rfl,hb.trans (hb1.mono hb.size)⟩
  ·go_wp2
   go_ret
   have h1:=Hall.out
   rw[List.take_of_length_le (by rw[Hl.out];omega)] at h1
   exact⟨by rw[posB_no h1];rfl,hb⟩
theorem containsRes_any (F:Nat→Prop) (A:Option Addr) (n c:Nat) (xs:List ByteArray) (w:World) (h:LsAt F w 1 SRow A n c xs) :
  Calls Tryz.prog 110 #[.slice A n c,.func (.func 111) #[] #[]] w fun x w'=>x=.returned (.bool (xs.any resB))∧Below w.heap.size w w':=by
 have hi:=indexRes_any F A n c xs w h
 have hp:=posB_any resB xs
 generalize xs.any resB=r at *
 generalize posB resB xs=i at *
 have Hp:=Lhd hp
 have Hi:=Lhd hi
 clear hp hi
 go_enter Tryz.func110,Tryz.ntmps110
 go_wp2_with (go_at_call 132;refine Hi.out.mono ?_;rintro x w' ⟨rfl,hb⟩)
 go_ret
 exact⟨ret_bool Hp.out,hb⟩
theorem free_any (F:Nat→Prop) (A:Option Addr) (n c:Nat) (xs:List ByteArray) (w:World) (h:LsAt F w 1 SRow A n c xs) :
  Calls Tryz.prog 85 #[.slice A n c] w fun x w'=>x=.returned (.bool (freesB xs))∧Below w.heap.size w w':=by
 have h1:=namedL_any F A n c xs w h
 have h2:=fun W (hW:Below w.heap.size w W)=>containsRes_any F A n c xs W (h.below hW)
 have hf:freesB xs=(xs.all namedB&&!xs.any resB):=rfl
 generalize xs.any resB=r at *
 generalize xs.all namedB=q at *
 have Hf:=Lhd hf
 have H1:=Lhd h1
 have H2:=Lhd h2
 clear h1 h2 hf
 cases q
 ·go_enter Tryz.func85,Tryz.ntmps85
  go_wp2_with (go_at_call 109;refine H1.out.mono ?_;rintro x w1 ⟨rfl,hb1⟩)
  go_ret
  exact⟨ret_bool (by rw[Hf.out];rfl),hb1⟩
 ·go_enter Tryz.func85,Tryz.ntmps85
  go_wp2_with (first|(go_at_call 109;refine H1.out.mono ?_;rintro x w1 ⟨rfl,hb1⟩)|(go_at_call 110;refine(H2.out _ hb1).mono ?_;rintro x w2 ⟨rfl,hb2⟩))
  go_ret
  exact⟨ret_bool (by rw[Hf.out];rfl),hb1.trans (hb2.mono hb1.size)⟩
end Go.Proofs.YtmfcmpnlipnopaaGreat
