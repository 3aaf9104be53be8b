/- Parts of this proof, one behind the other: RefE3. -/
import Derived.Test.YtmfcmpnlipnopaaGreatTw25
set_option maxRecDepth 1000000
set_option maxHeartbeats 40000000
namespace Go.Proofs.YtmfcmpnlipnopaaGreat
open Go.RowKit Go.Afx
theorem rbuilt_21_5  (n:Int) (s name src:ByteArray) (A:Option Addr) (m c:Nat) (args:List Ex) (w:World) (F:Nat→Prop) (d:Nat) (ih:RBuilts F d) (hl:ExsAt F d w A m c args) (okn:okS name) (okr:okS src) (ha:args.length=m) (t0:freeB name=true) (t1:freeB src=true) (t2:decide (n=0)=true) (t3:noS s=true) (t4:decide (m=1)=true) :
  Calls Tryz.prog 52 #[.agg #[.int .i64 21,.int .i64 n,.string s,.string name,.string src,.slice A m c]] w fun x w'=>x=.returned (.bool (headR 21 n s name src args.length&&args.all (builtE d)))∧Below w.heap.size w w':=by
 have hfin:headR 21 n s name src args.length=true:=by
  rw[ha,headR_21 ]
  simp[t0,t1,t2,t3,t4]
 have Hfin:=Lhd hfin
 clear hfin
 have HF0:=Lhd (fun W=>freeRef_any name W okn)
 rw[t0] at HF0
 clear t0
 have HF1:=Lhd (fun W=>freeRef_any src W okr)
 rw[t1] at HF1
 clear t1
 have t2b:(n==0)=true:=by simpa using t2
 have t2c:(n !=0)=false:=by simpa using t2
 clear t2
 replace t3:=str_empty t3
 have t4b:m=1:=by simpa using t4
 have hmb:m≤1000:=by omega
 have Hm:=Lhd t4b
 have t4c:((m:Int) !=1)=false:=by simp;omega
 clear t4b t4
 obtain⟨w2,Hw2⟩:∃ w2,Hid (w2=(w.alloc (.cells #[.int .i64 21,.int .i64 n,.string s,.string name,.string src,.slice A m c] 89)).alloc (.cells #[.int .i64 21,.int .i64 0,.string { data:=#[] },.string { data:=#[] },.string { data:=#[] },.slice none 0 0] 89)):=⟨_,rfl⟩
 have hR:Below w.heap.size w w2:=by rw[Hw2.out];exact((Below.refl _ _).alloc (Nat.le_refl _) _).alloc (by simp) _
 have he2:IsBlk w2 w.heap.size 89 #[.int .i64 21,.int .i64 n,.string s,.string name,.string src,.slice A m c]:=by rw[Hw2.out];exact(IsBlk.laid _ _ _).alloc _
 have hw2:IsBlk w2 (w.heap.size+1) 89 #[.int .i64 21,.int .i64 0,.string { data:=#[] },.string { data:=#[] },.string { data:=#[] },.slice none 0 0]:=by rw[Hw2.out];exact laid_at (by simp) _ _
 obtain⟨x0,x1,x2,x3,x4,x5,xl⟩:=exBox he2
 obtain⟨y0,y1,y2,y3,y4,y5,hlw⟩:=exBox hw2
 have hfz:=hw2.frozen
 have hA5:=x5
 clear he2 hw2
 have Hl:=Lhd (fun W (hW:Below w.heap.size w W)=>ExsAt.below hl hW)
 have Ha:=Lhd ha
 clear ha hl
 go_enter Tryz.func52,Tryz.ntmps52
 go_upto_region 2 with (fail)
 rw[← Hw2.out]
 go_wp2_with (first|fail|(go_at_call 28;(with_reducible refine(HF0.out _).mono ?_);rintro x w10 ⟨rfl,hb0⟩;(obtain⟨hc0,hf0⟩:=old_reads hb0;have hz0:=hb0.size;simp[World.setCell] at hz0;have hR0:Below w.heap.size w w10:=Below.trans (by repeat (first|exact hR|refine Below.setCell ?_ (by simp) _)) (hb0.mono (by first|(simp[World.setCell];done)|(have:=hR.size;simp[World.setCell];omega)));replace hR:=hR0;replace hA5:=(hb0.cell (p:=⟨w.heap.size,5,none⟩) (by first|(simp[World.setCell];done)|(simp[World.setCell];omega))).trans ((set_other (by simp)).trans hA5);have hlx0:w.heap.size+1<w10.heap.size:=(by omega);have hly0:w.heap.size<w10.heap.size:=(by omega)))|(go_at_call 28;(with_reducible refine(HF1.out _).mono ?_);rintro x w11 ⟨rfl,hb1⟩;(obtain⟨hc1,hf1⟩:=old_reads hb1;have hz1:=hb1.size;simp[World.setCell] at hz1;have hR1:Below w.heap.size w w11:=Below.trans (by repeat (first|exact hR|refine Below.setCell ?_ (by simp) _)) (hb1.mono (by first|(simp[World.setCell];done)|(have:=hR.size;simp[World.setCell];omega)));replace hR:=hR1;replace hA5:=(hb1.cell (p:=⟨w.heap.size,5,none⟩) (by first|(simp[World.setCell];done)|(simp[World.setCell];omega))).trans ((set_other (by simp)).trans hA5);have hlx1:w.heap.size+1<w11.heap.size:=(by omega);have hly1:w.heap.size<w11.heap.size:=(by omega))))
 obtain⟨g5,gl⟩:w11.cell? ⟨w.heap.size,5,none⟩=some (.slice A m c)∧w.heap.size<w11.heap.size:=⟨hA5,by omega⟩
 have Hg:=Lhd (fun W (hW:Below w11.heap.size w11 W)=>(hW.cell (p:=⟨w.heap.size,5,none⟩) gl).trans g5)
 clear g5 hA5 x0 x1 x2 x3 x4 x5 y0 y1 y2 y3 y4 y5
 go_loopw [5] (fun i wr=>∃ k:Nat,k≤m∧i=.int .i64 k∧(∀ y∈args.take k,builtE d y=true)∧Below w11.heap.size w11 wr) (fun i _=>m-(intOf i).toNat)
 case atStart=>exact⟨0,Nat.zero_le _,rfl,by simp,Below.refl _ _⟩
 case round =>
  obtain⟨k,hk,rfl,hall,hB⟩:=hrel
  have Hall:=Lhd hall
  clear hall
  have g5:=Hg.out wr hB
  have glr:=Nat.lt_of_lt_of_le gl hB.size
  have hRw:=hR.trans (hB.mono hR.size)
  by_cases hlt:k<m
  ·have hki:decide ((k:Int)<1)=true:=by have hm:=Hm.out;rw[decide_eq_true_iff];omega
   cases d with
   | zero =>
    obtain⟨b,o,r,e,hA,hbl,_,he,hl,hp,hc⟩:=LsAt.get (Hl.out wr hRw) hlt
    exact hp.elim
   | succ d =>
    obtain⟨b,o,x,A2,m2,c2,rfl,hbl,hx,hc0,hc1,hc2,hc3,hc4,hc5,hp,_⟩:=ExsAt.get (Hl.out wr hRw) hlt
    have Hx:=Lhd hx
    clear hx
    obtain⟨q,Hq⟩:∃ q,Hid (builtE (d+1) x=q):=⟨_,rfl⟩
    have hcall:=ih x _ wr hp
    rw[Hq.out] at hcall
    have Hc:=Lhd hcall
    clear hcall
    cases q
    ·go_wp2_with (go_at_call 52;refine Hc.out.mono ?_;rintro y w9 ⟨rfl,hb9⟩)
     go_ret
     have hno:args.all (builtE (d+1))=false:=by rw[List.all_eq_false];exact⟨x,List.mem_of_getElem? Hx.out,by rw[Hq.out];simp⟩
     exact⟨ret_bool (by rw[Hfin.out,hno];rfl),hRw.trans (hb9.mono hRw.size)⟩
    ·have Hnx:=Lhd (mem_take_succ Hx.out Hall.out Hq.out)
     go_wp2_with (go_at_call 52;refine Hc.out.mono ?_;rintro y w9 ⟨rfl,hb9⟩)
     go_roundw
     case rel=>exact⟨k+1,by omega,by go_num,Hnx.out,hB.trans (hb9.mono hB.size)⟩
     case measure=>simp[intOf];omega
  ·have hki:decide ((k:Int)<1)=false:=by have hm:=Hm.out;rw[decide_eq_false_iff_not];omega
   go_wp2
   go_ret
   have h1:=Hall.out
   rw[List.take_of_length_le (by rw[Ha.out];omega)] at h1
   have hyes:args.all (builtE d)=true:=by rw[List.all_eq_true];exact h1
   exact⟨ret_bool (by rw[Hfin.out,hyes];rfl),hRw⟩
theorem rbuiltK_21  (n:Int) (s name src:ByteArray) (A:Option Addr) (m c:Nat) (args:List Ex) (w:World) (F:Nat→Prop) (d:Nat) (ih:RBuilts F d) (hl:ExsAt F d w A m c args) (okn:okS name) (okr:okS src) :
  Calls Tryz.prog 52 #[.agg #[.int .i64 21,.int .i64 n,.string s,.string name,.string src,.slice A m c]] w fun x w'=>x=.returned (.bool (headR 21 n s name src args.length&&args.all (builtE d)))∧Below w.heap.size w w':=by
 have ha:=LsAt.len hl
 cases t0:freeB name
 rotate_left
 cases t1:freeB src
 rotate_left
 cases t2:decide (n=0)
 rotate_left
 cases t3:noS s
 rotate_left
 cases t4:decide (m=1)
 rotate_left
 exact rbuilt_21_5 n s name src A m c args w F d ih hl okn okr ha t0 t1 t2 t3 t4
 all_goals
  generalize hfin:headR 21 n s name src args.length=fin
  rw[ha,headR_21 ] at hfin
  simp[*] at hfin
  subst hfin
  clear hl ha ih
  have HF0:=Lhd (fun W=>freeRef_any name W okn)
  try (rw[t0] at HF0;clear t0)
  have HF1:=Lhd (fun W=>freeRef_any src W okr)
  try (rw[t1] at HF1;clear t1)
  first|(obtain⟨t2b,t2c⟩:=z_yes t2;clear t2)|(obtain⟨t2b,t2c⟩:=z_no t2;clear t2)|skip
  first|replace t3:=str_empty t3|(have q:=str_neq t3;clear t3;obtain⟨t3,t3b,t3c⟩:=q)|skip
  first|replace t4:=l1_no t4|skip
  obtain⟨w2,Hw2⟩:∃ w2,Hid (w2=(w.alloc (.cells #[.int .i64 21,.int .i64 n,.string s,.string name,.string src,.slice A m c] 89)).alloc (.cells #[.int .i64 21,.int .i64 0,.string { data:=#[] },.string { data:=#[] },.string { data:=#[] },.slice none 0 0] 89)):=⟨_,rfl⟩
  have hR:Below w.heap.size w w2:=by rw[Hw2.out];exact((Below.refl _ _).alloc (Nat.le_refl _) _).alloc (by simp) _
  have he2:IsBlk w2 w.heap.size 89 #[.int .i64 21,.int .i64 n,.string s,.string name,.string src,.slice A m c]:=by rw[Hw2.out];exact(IsBlk.laid _ _ _).alloc _
  have hw2:IsBlk w2 (w.heap.size+1) 89 #[.int .i64 21,.int .i64 0,.string { data:=#[] },.string { data:=#[] },.string { data:=#[] },.slice none 0 0]:=by rw[Hw2.out];exact laid_at (by simp) _ _
  obtain⟨x0,x1,x2,x3,x4,x5,xl⟩:=exBox he2
  obtain⟨y0,y1,y2,y3,y4,y5,hlw⟩:=exBox hw2
  have hfz:=hw2.frozen
  have hA5:=x5
  clear he2 hw2
  go_enter Tryz.func52,Tryz.ntmps52
  go_upto_region 2 with (fail)
  rw[← Hw2.out]
  go_wp2_with (first|fail|(go_at_call 28;(with_reducible refine(HF0.out _).mono ?_);rintro x w10 ⟨rfl,hb0⟩;(obtain⟨hc0,hf0⟩:=old_reads hb0;have hz0:=hb0.size;simp[World.setCell] at hz0;have hR0:Below w.heap.size w w10:=Below.trans (by repeat (first|exact hR|refine Below.setCell ?_ (by simp) _)) (hb0.mono (by first|(simp[World.setCell];done)|(have:=hR.size;simp[World.setCell];omega)));replace hR:=hR0;replace hA5:=(hb0.cell (p:=⟨w.heap.size,5,none⟩) (by first|(simp[World.setCell];done)|(simp[World.setCell];omega))).trans ((set_other (by simp)).trans hA5);have hlx0:w.heap.size+1<w10.heap.size:=(by omega);have hly0:w.heap.size<w10.heap.size:=(by omega)))|(go_at_call 28;(with_reducible refine(HF1.out _).mono ?_);rintro x w11 ⟨rfl,hb1⟩;(obtain⟨hc1,hf1⟩:=old_reads hb1;have hz1:=hb1.size;simp[World.setCell] at hz1;have hR1:Below w.heap.size w w11:=Below.trans (by repeat (first|exact hR|refine Below.setCell ?_ (by simp) _)) (hb1.mono (by first|(simp[World.setCell];done)|(have:=hR.size;simp[World.setCell];omega)));replace hR:=hR1;replace hA5:=(hb1.cell (p:=⟨w.heap.size,5,none⟩) (by first|(simp[World.setCell];done)|(simp[World.setCell];omega))).trans ((set_other (by simp)).trans hA5);have hlx1:w.heap.size+1<w11.heap.size:=(by omega);have hly1:w.heap.size<w11.heap.size:=(by omega))))
  all_goals
   go_ret
   exact⟨rfl,by repeat (first|exact hR|refine Below.setCell ?_ (by simp) _)⟩
theorem rbuilt_r_5 (op:Int) (h22:22≤op) (h24:op≤24) (n:Int) (s name src:ByteArray) (A:Option Addr) (m c:Nat) (args:List Ex) (w:World) (F:Nat→Prop) (d:Nat) (ih:RBuilts F d) (hl:ExsAt F d w A m c args) (okn:okS name) (okr:okS src) (ha:args.length=m) (t0:freeB name=true) (t1:freeB src=true) (t2:decide (n=0)=true) (t3:noS s=true) (t4:decide (m=2)=true) :
  Calls Tryz.prog 52 #[.agg #[.int .i64 op,.int .i64 n,.string s,.string name,.string src,.slice A m c]] w fun x w'=>x=.returned (.bool (headR op n s name src args.length&&args.all (builtE d)))∧Below w.heap.size w w':=by
 have hfin:headR op n s name src args.length=true:=by
  rw[ha,headR_r op (by omega) (by omega)]
  simp[t0,t1,t2,t3,t4]
 have Hfin:=Lhd hfin
 clear hfin
 have e1:(op==1)=false:=by simp;omega
 have e2:(op==2)=false:=by simp;omega
 have e3:(op==3)=false:=by simp;omega
 have e4:(op==4)=false:=by simp;omega
 have e5:(op==5)=false:=by simp;omega
 have e21:(op==21)=false:=by simp;omega
 have f1:decide ((21:Int)≤op)=true:=by simp;omega
 have f2:decide (op≤(24:Int))=true:=by simp;omega
 have f3:decide ((5:Int)<op)=true:=by simp;omega
 have HF0:=Lhd (fun W=>freeRef_any name W okn)
 rw[t0] at HF0
 clear t0
 have HF1:=Lhd (fun W=>freeRef_any src W okr)
 rw[t1] at HF1
 clear t1
 have t2b:(n==0)=true:=by simpa using t2
 have t2c:(n !=0)=false:=by simpa using t2
 clear t2
 replace t3:=str_empty t3
 have t4b:m=2:=by simpa using t4
 have hmb:m≤1000:=by omega
 have Hm:=Lhd t4b
 have t4c:((m:Int) !=2)=false:=by simp;omega
 clear t4b t4
 obtain⟨w2,Hw2⟩:∃ w2,Hid (w2=(w.alloc (.cells #[.int .i64 op,.int .i64 n,.string s,.string name,.string src,.slice A m c] 89)).alloc (.cells #[.int .i64 op,.int .i64 0,.string { data:=#[] },.string { data:=#[] },.string { data:=#[] },.slice none 0 0] 89)):=⟨_,rfl⟩
 have hR:Below w.heap.size w w2:=by rw[Hw2.out];exact((Below.refl _ _).alloc (Nat.le_refl _) _).alloc (by simp) _
 have he2:IsBlk w2 w.heap.size 89 #[.int .i64 op,.int .i64 n,.string s,.string name,.string src,.slice A m c]:=by rw[Hw2.out];exact(IsBlk.laid _ _ _).alloc _
 have hw2:IsBlk w2 (w.heap.size+1) 89 #[.int .i64 op,.int .i64 0,.string { data:=#[] },.string { data:=#[] },.string { data:=#[] },.slice none 0 0]:=by rw[Hw2.out];exact laid_at (by simp) _ _
 obtain⟨x0,x1,x2,x3,x4,x5,xl⟩:=exBox he2
 obtain⟨y0,y1,y2,y3,y4,y5,hlw⟩:=exBox hw2
 have hfz:=hw2.frozen
 have hA5:=x5
 clear he2 hw2
 have Hl:=Lhd (fun W (hW:Below w.heap.size w W)=>ExsAt.below hl hW)
 have Ha:=Lhd ha
 clear ha hl
 go_enter Tryz.func52,Tryz.ntmps52
 go_upto_region 2 with (fail)
 rw[← Hw2.out]
 go_wp2_with (first|fail|(go_at_call 28;(with_reducible refine(HF0.out _).mono ?_);rintro x w10 ⟨rfl,hb0⟩;(obtain⟨hc0,hf0⟩:=old_reads hb0;have hz0:=hb0.size;simp[World.setCell] at hz0;have hR0:Below w.heap.size w w10:=Below.trans (by repeat (first|exact hR|refine Below.setCell ?_ (by simp) _)) (hb0.mono (by first|(simp[World.setCell];done)|(have:=hR.size;simp[World.setCell];omega)));replace hR:=hR0;replace hA5:=(hb0.cell (p:=⟨w.heap.size,5,none⟩) (by first|(simp[World.setCell];done)|(simp[World.setCell];omega))).trans ((set_other (by simp)).trans hA5);have hlx0:w.heap.size+1<w10.heap.size:=(by omega);have hly0:w.heap.size<w10.heap.size:=(by omega)))|(go_at_call 28;(with_reducible refine(HF1.out _).mono ?_);rintro x w11 ⟨rfl,hb1⟩;(obtain⟨hc1,hf1⟩:=old_reads hb1;have hz1:=hb1.size;simp[World.setCell] at hz1;have hR1:Below w.heap.size w w11:=Below.trans (by repeat (first|exact hR|refine Below.setCell ?_ (by simp) _)) (hb1.mono (by first|(simp[World.setCell];done)|(have:=hR.size;simp[World.setCell];omega)));replace hR:=hR1;replace hA5:=(hb1.cell (p:=⟨w.heap.size,5,none⟩) (by first|(simp[World.setCell];done)|(simp[World.setCell];omega))).trans ((set_other (by simp)).trans hA5);have hlx1:w.heap.size+1<w11.heap.size:=(by omega);have hly1:w.heap.size<w11.heap.size:=(by omega))))
 obtain⟨g5,gl⟩:w11.cell? ⟨w.heap.size,5,none⟩=some (.slice A m c)∧w.heap.size<w11.heap.size:=⟨hA5,by omega⟩
 have Hg:=Lhd (fun W (hW:Below w11.heap.size w11 W)=>(hW.cell (p:=⟨w.heap.size,5,none⟩) gl).trans g5)
 clear g5 hA5 x0 x1 x2 x3 x4 x5 y0 y1 y2 y3 y4 y5
 go_loopw [5] (fun i wr=>∃ k:Nat,k≤m∧i=.int .i64 k∧(∀ y∈args.take k,builtE d y=true)∧Below w11.heap.size w11 wr) (fun i _=>m-(intOf i).toNat)
 case atStart=>exact⟨0,Nat.zero_le _,rfl,by simp,Below.refl _ _⟩
 case round =>
  obtain⟨k,hk,rfl,hall,hB⟩:=hrel
  have Hall:=Lhd hall
  clear hall
  have g5:=Hg.out wr hB
  have glr:=Nat.lt_of_lt_of_le gl hB.size
  have hRw:=hR.trans (hB.mono hR.size)
  by_cases hlt:k<m
  ·have hki:decide ((k:Int)<2)=true:=by have hm:=Hm.out;rw[decide_eq_true_iff];omega
   cases d with
   | zero =>
    obtain⟨b,o,r,e,hA,hbl,_,he,hl,hp,hc⟩:=LsAt.get (Hl.out wr hRw) hlt
    exact hp.elim
   | succ d =>
    obtain⟨b,o,x,A2,m2,c2,rfl,hbl,hx,hc0,hc1,hc2,hc3,hc4,hc5,hp,_⟩:=ExsAt.get (Hl.out wr hRw) hlt
    have Hx:=Lhd hx
    clear hx
    obtain⟨q,Hq⟩:∃ q,Hid (builtE (d+1) x=q):=⟨_,rfl⟩
    have hcall:=ih x _ wr hp
    rw[Hq.out] at hcall
    have Hc:=Lhd hcall
    clear hcall
    cases q
    ·go_wp2_with (go_at_call 52;refine Hc.out.mono ?_;rintro y w9 ⟨rfl,hb9⟩)
     go_ret
     have hno:args.all (builtE (d+1))=false:=by rw[List.all_eq_false];exact⟨x,List.mem_of_getElem? Hx.out,by rw[Hq.out];simp⟩
     exact⟨ret_bool (by rw[Hfin.out,hno];rfl),hRw.trans (hb9.mono hRw.size)⟩
    ·have Hnx:=Lhd (mem_take_succ Hx.out Hall.out Hq.out)
     go_wp2_with (go_at_call 52;refine Hc.out.mono ?_;rintro y w9 ⟨rfl,hb9⟩)
     go_roundw
     case rel=>exact⟨k+1,by omega,by go_num,Hnx.out,hB.trans (hb9.mono hB.size)⟩
     case measure=>simp[intOf];omega
  ·have hki:decide ((k:Int)<2)=false:=by have hm:=Hm.out;rw[decide_eq_false_iff_not];omega
   go_wp2
   go_ret
   have h1:=Hall.out
   rw[List.take_of_length_le (by rw[Ha.out];omega)] at h1
   have hyes:args.all (builtE d)=true:=by rw[List.all_eq_true];exact h1
   exact⟨ret_bool (by rw[Hfin.out,hyes];rfl),hRw⟩
theorem rbuiltK_r (op:Int) (h22:22≤op) (h24:op≤24) (n:Int) (s name src:ByteArray) (A:Option Addr) (m c:Nat) (args:List Ex) (w:World) (F:Nat→Prop) (d:Nat) (ih:RBuilts F d) (hl:ExsAt F d w A m c args) (okn:okS name) (okr:okS src) :
  Calls Tryz.prog 52 #[.agg #[.int .i64 op,.int .i64 n,.string s,.string name,.string src,.slice A m c]] w fun x w'=>x=.returned (.bool (headR op n s name src args.length&&args.all (builtE d)))∧Below w.heap.size w w':=by
 have ha:=LsAt.len hl
 cases t0:freeB name
 rotate_left
 cases t1:freeB src
 rotate_left
 cases t2:decide (n=0)
 rotate_left
 cases t3:noS s
 rotate_left
 cases t4:decide (m=2)
 rotate_left
 exact rbuilt_r_5 op h22 h24 n s name src A m c args w F d ih hl okn okr ha t0 t1 t2 t3 t4
 all_goals
  generalize hfin:headR op n s name src args.length=fin
  rw[ha,headR_r op (by omega) (by omega)] at hfin
  simp[*] at hfin
  subst hfin
  clear hl ha ih
  have e1:(op==1)=false:=by simp;omega
  have e2:(op==2)=false:=by simp;omega
  have e3:(op==3)=false:=by simp;omega
  have e4:(op==4)=false:=by simp;omega
  have e5:(op==5)=false:=by simp;omega
  have e21:(op==21)=false:=by simp;omega
  have f1:decide ((21:Int)≤op)=true:=by simp;omega
  have f2:decide (op≤(24:Int))=true:=by simp;omega
  have f3:decide ((5:Int)<op)=true:=by simp;omega
  have HF0:=Lhd (fun W=>freeRef_any name W okn)
  try (rw[t0] at HF0;clear t0)
  have HF1:=Lhd (fun W=>freeRef_any src W okr)
  try (rw[t1] at HF1;clear t1)
  first|(obtain⟨t2b,t2c⟩:=z_yes t2;clear t2)|(obtain⟨t2b,t2c⟩:=z_no t2;clear t2)|skip
  first|replace t3:=str_empty t3|(have q:=str_neq t3;clear t3;obtain⟨t3,t3b,t3c⟩:=q)|skip
  first|replace t4:=l2_no t4|skip
  obtain⟨w2,Hw2⟩:∃ w2,Hid (w2=(w.alloc (.cells #[.int .i64 op,.int .i64 n,.string s,.string name,.string src,.slice A m c] 89)).alloc (.cells #[.int .i64 op,.int .i64 0,.string { data:=#[] },.string { data:=#[] },.string { data:=#[] },.slice none 0 0] 89)):=⟨_,rfl⟩
  have hR:Below w.heap.size w w2:=by rw[Hw2.out];exact((Below.refl _ _).alloc (Nat.le_refl _) _).alloc (by simp) _
  have he2:IsBlk w2 w.heap.size 89 #[.int .i64 op,.int .i64 n,.string s,.string name,.string src,.slice A m c]:=by rw[Hw2.out];exact(IsBlk.laid _ _ _).alloc _
  have hw2:IsBlk w2 (w.heap.size+1) 89 #[.int .i64 op,.int .i64 0,.string { data:=#[] },.string { data:=#[] },.string { data:=#[] },.slice none 0 0]:=by rw[Hw2.out];exact laid_at (by simp) _ _
  obtain⟨x0,x1,x2,x3,x4,x5,xl⟩:=exBox he2
  obtain⟨y0,y1,y2,y3,y4,y5,hlw⟩:=exBox hw2
  have hfz:=hw2.frozen
  have hA5:=x5
  clear he2 hw2
  go_enter Tryz.func52,Tryz.ntmps52
  go_upto_region 2 with (fail)
  rw[← Hw2.out]
  go_wp2_with (first|fail|(go_at_call 28;(with_reducible refine(HF0.out _).mono ?_);rintro x w10 ⟨rfl,hb0⟩;(obtain⟨hc0,hf0⟩:=old_reads hb0;have hz0:=hb0.size;simp[World.setCell] at hz0;have hR0:Below w.heap.size w w10:=Below.trans (by repeat (first|exact hR|refine Below.setCell ?_ (by simp) _)) (hb0.mono (by first|(simp[World.setCell];done)|(have:=hR.size;simp[World.setCell];omega)));replace hR:=hR0;replace hA5:=(hb0.cell (p:=⟨w.heap.size,5,none⟩) (by first|(simp[World.setCell];done)|(simp[World.setCell];omega))).trans ((set_other (by simp)).trans hA5);have hlx0:w.heap.size+1<w10.heap.size:=(by omega);have hly0:w.heap.size<w10.heap.size:=(by omega)))|(go_at_call 28;(with_reducible refine(HF1.out _).mono ?_);rintro x w11 ⟨rfl,hb1⟩;(obtain⟨hc1,hf1⟩:=old_reads hb1;have hz1:=hb1.size;simp[World.setCell] at hz1;have hR1:Below w.heap.size w w11:=Below.trans (by repeat (first|exact hR|refine Below.setCell ?_ (by simp) _)) (hb1.mono (by first|(simp[World.setCell];done)|(have:=hR.size;simp[World.setCell];omega)));replace hR:=hR1;replace hA5:=(hb1.cell (p:=⟨w.heap.size,5,none⟩) (by first|(simp[World.setCell];done)|(simp[World.setCell];omega))).trans ((set_other (by simp)).trans hA5);have hlx1:w.heap.size+1<w11.heap.size:=(by omega);have hly1:w.heap.size<w11.heap.size:=(by omega))))
  all_goals
   go_ret
   exact⟨rfl,by repeat (first|exact hR|refine Below.setCell ?_ (by simp) _)⟩
end Go.Proofs.YtmfcmpnlipnopaaGreat
