/- Parts of this proof, one behind the other: RefE4, RefF, RefG. -/
import Derived.Test.YtmfcmpnlipnopaaGreatTw25
import Derived.Test.YtmfcmpnlipnopaaGreatTw26
import Derived.Test.YtmfcmpnlipnopaaGreatTw27
import Derived.Test.YtmfcmpnlipnopaaGreatTw24
set_option maxRecDepth 1000000
set_option maxHeartbeats 40000000
namespace Go.Proofs.YtmfcmpnlipnopaaGreat
open Go.RowKit Go.Afx
theorem rbuilt_t_5 (op:Int) (h6:6≤op) (h18:op≤18) (n:Int) (s name src:ByteArray) (A:Option Addr) (m c:Nat) (args:List Ex) (w:World) (F:Nat→Prop) (d:Nat) (ih:RBuilts F d) (hl:ExsAt F d w A m c args) (ha:args.length=m) (t0:decide (n=0)=true) (t1:noS s=true) (t2:noS name=true) (t3:noS src=true) (t4:decide (m=2)=true) :
  Calls Tryz.prog 52 #[.agg #[.int .i64 op,.int .i64 n,.string s,.string name,.string src,.slice A m c]] w fun x w'=>x=.returned (.bool (headR op n s name src args.length&&args.all (builtE d)))∧Below w.heap.size w w':=by
 have hfin:headR op n s name src args.length=true:=by
  rw[ha,headR_t op (by omega) (by omega)]
  simp[t0,t1,t2,t3,t4]
 have Hfin:=Lhd hfin
 clear hfin
 have e1:(op==1)=false:=by simp;omega
 have e2:(op==2)=false:=by simp;omega
 have e3:(op==3)=false:=by simp;omega
 have e4:(op==4)=false:=by simp;omega
 have e5:(op==5)=false:=by simp;omega
 have e21:(op==21)=false:=by simp;omega
 have f1:decide ((21:Int)≤op)=false:=by simp;omega
 have f4:decide ((6:Int)≤op)=true:=by simp;omega
 have f5:decide (op≤(18:Int))=true:=by simp;omega
 have t0b:(n==0)=true:=by simpa using t0
 have t0c:(n !=0)=false:=by simpa using t0
 clear t0
 replace t1:=str_empty t1
 replace t2:=str_empty t2
 replace t3:=str_empty t3
 have t4b:m=2:=by simpa using t4
 have hmb:m≤1000:=by omega
 have Hm:=Lhd t4b
 have t4c:((m:Int) !=2)=false:=by simp;omega
 clear t4b t4
 obtain⟨w2,Hw2⟩:∃ w2,Hid (w2=(w.alloc (.cells #[.int .i64 op,.int .i64 n,.string s,.string name,.string src,.slice A m c] 89)).alloc (.cells #[.int .i64 op,.int .i64 0,.string { data:=#[] },.string { data:=#[] },.string { data:=#[] },.slice none 0 0] 89)):=⟨_,rfl⟩
 have hR:Below w.heap.size w w2:=by rw[Hw2.out];exact((Below.refl _ _).alloc (Nat.le_refl _) _).alloc (by simp) _
 have he2:IsBlk w2 w.heap.size 89 #[.int .i64 op,.int .i64 n,.string s,.string name,.string src,.slice A m c]:=by rw[Hw2.out];exact(IsBlk.laid _ _ _).alloc _
 have hw2:IsBlk w2 (w.heap.size+1) 89 #[.int .i64 op,.int .i64 0,.string { data:=#[] },.string { data:=#[] },.string { data:=#[] },.slice none 0 0]:=by rw[Hw2.out];exact laid_at (by simp) _ _
 obtain⟨x0,x1,x2,x3,x4,x5,xl⟩:=exBox he2
 obtain⟨y0,y1,y2,y3,y4,y5,hlw⟩:=exBox hw2
 have hfz:=hw2.frozen
 have hA5:=x5
 clear he2 hw2
 have Hl:=Lhd (fun W (hW:Below w.heap.size w W)=>ExsAt.below hl hW)
 have Ha:=Lhd ha
 clear ha hl
 go_enter Tryz.func52,Tryz.ntmps52
 go_upto_region 2 with (fail)
 rw[← Hw2.out]
 go_wp2_with (first|fail)
 obtain⟨g5,gl⟩:w2.cell? ⟨w.heap.size,5,none⟩=some (.slice A m c)∧w.heap.size<w2.heap.size:=⟨hA5,by omega⟩
 have Hg:=Lhd (fun W (hW:Below w2.heap.size w2 W)=>(hW.cell (p:=⟨w.heap.size,5,none⟩) gl).trans g5)
 clear g5 hA5 x0 x1 x2 x3 x4 x5 y0 y1 y2 y3 y4 y5
 go_loopw [5] (fun i wr=>∃ k:Nat,k≤m∧i=.int .i64 k∧(∀ y∈args.take k,builtE d y=true)∧Below w2.heap.size w2 wr) (fun i _=>m-(intOf i).toNat)
 case atStart=>exact⟨0,Nat.zero_le _,rfl,by simp,Below.refl _ _⟩
 case round =>
  obtain⟨k,hk,rfl,hall,hB⟩:=hrel
  have Hall:=Lhd hall
  clear hall
  have g5:=Hg.out wr hB
  have glr:=Nat.lt_of_lt_of_le gl hB.size
  have hRw:=hR.trans (hB.mono hR.size)
  by_cases hlt:k<m
  ·have hki:decide ((k:Int)<2)=true:=by have hm:=Hm.out;rw[decide_eq_true_iff];omega
   cases d with
   | zero =>
    obtain⟨b,o,r,e,hA,hbl,_,he,hl,hp,hc⟩:=LsAt.get (Hl.out wr hRw) hlt
    exact hp.elim
   | succ d =>
    obtain⟨b,o,x,A2,m2,c2,rfl,hbl,hx,hc0,hc1,hc2,hc3,hc4,hc5,hp,_⟩:=ExsAt.get (Hl.out wr hRw) hlt
    have Hx:=Lhd hx
    clear hx
    obtain⟨q,Hq⟩:∃ q,Hid (builtE (d+1) x=q):=⟨_,rfl⟩
    have hcall:=ih x _ wr hp
    rw[Hq.out] at hcall
    have Hc:=Lhd hcall
    clear hcall
    cases q
    ·go_wp2_with (go_at_call 52;refine Hc.out.mono ?_;rintro y w9 ⟨rfl,hb9⟩)
     go_ret
     have hno:args.all (builtE (d+1))=false:=by rw[List.all_eq_false];exact⟨x,List.mem_of_getElem? Hx.out,by rw[Hq.out];simp⟩
     exact⟨ret_bool (by rw[Hfin.out,hno];rfl),hRw.trans (hb9.mono hRw.size)⟩
    ·have Hnx:=Lhd (mem_take_succ Hx.out Hall.out Hq.out)
     go_wp2_with (go_at_call 52;refine Hc.out.mono ?_;rintro y w9 ⟨rfl,hb9⟩)
     go_roundw
     case rel=>exact⟨k+1,by omega,by go_num,Hnx.out,hB.trans (hb9.mono hB.size)⟩
     case measure=>simp[intOf];omega
  ·have hki:decide ((k:Int)<2)=false:=by have hm:=Hm.out;rw[decide_eq_false_iff_not];omega
   go_wp2
   go_ret
   have h1:=Hall.out
   rw[List.take_of_length_le (by rw[Ha.out];omega)] at h1
   have hyes:args.all (builtE d)=true:=by rw[List.all_eq_true];exact h1
   exact⟨ret_bool (by rw[Hfin.out,hyes];rfl),hRw⟩
theorem rbuiltK_t (op:Int) (h6:6≤op) (h18:op≤18) (n:Int) (s name src:ByteArray) (A:Option Addr) (m c:Nat) (args:List Ex) (w:World) (F:Nat→Prop) (d:Nat) (ih:RBuilts F d) (hl:ExsAt F d w A m c args) :
  Calls Tryz.prog 52 #[.agg #[.int .i64 op,.int .i64 n,.string s,.string name,.string src,.slice A m c]] w fun x w'=>x=.returned (.bool (headR op n s name src args.length&&args.all (builtE d)))∧Below w.heap.size w w':=by
 have ha:=LsAt.len hl
 cases t0:decide (n=0)
 rotate_left
 cases t1:noS s
 rotate_left
 cases t2:noS name
 rotate_left
 cases t3:noS src
 rotate_left
 cases t4:decide (m=2)
 rotate_left
 exact rbuilt_t_5 op h6 h18 n s name src A m c args w F d ih hl ha t0 t1 t2 t3 t4
 all_goals
  generalize hfin:headR op n s name src args.length=fin
  rw[ha,headR_t op (by omega) (by omega)] at hfin
  simp[*] at hfin
  subst hfin
  clear hl ha ih
  have e1:(op==1)=false:=by simp;omega
  have e2:(op==2)=false:=by simp;omega
  have e3:(op==3)=false:=by simp;omega
  have e4:(op==4)=false:=by simp;omega
  have e5:(op==5)=false:=by simp;omega
  have e21:(op==21)=false:=by simp;omega
  have f1:decide ((21:Int)≤op)=false:=by simp;omega
  have f4:decide ((6:Int)≤op)=true:=by simp;omega
  have f5:decide (op≤(18:Int))=true:=by simp;omega
  first|(obtain⟨t0b,t0c⟩:=z_yes t0;clear t0)|(obtain⟨t0b,t0c⟩:=z_no t0;clear t0)|skip
  first|replace t1:=str_empty t1|(have q:=str_neq t1;clear t1;obtain⟨t1,t1b,t1c⟩:=q)|skip
  first|replace t2:=str_empty t2|(have q:=str_neq t2;clear t2;obtain⟨t2,t2b,t2c⟩:=q)|skip
  first|replace t3:=str_empty t3|(have q:=str_neq t3;clear t3;obtain⟨t3,t3b,t3c⟩:=q)|skip
  first|replace t4:=l2_no t4|skip
  obtain⟨w2,Hw2⟩:∃ w2,Hid (w2=(w.alloc (.cells #[.int .i64 op,.int .i64 n,.string s,.string name,.string src,.slice A m c] 89)).alloc (.cells #[.int .i64 op,.int .i64 0,.string { data:=#[] },.string { data:=#[] },.string { data:=#[] },.slice none 0 0] 89)):=⟨_,rfl⟩
  have hR:Below w.heap.size w w2:=by rw[Hw2.out];exact((Below.refl _ _).alloc (Nat.le_refl _) _).alloc (by simp) _
  have he2:IsBlk w2 w.heap.size 89 #[.int .i64 op,.int .i64 n,.string s,.string name,.string src,.slice A m c]:=by rw[Hw2.out];exact(IsBlk.laid _ _ _).alloc _
  have hw2:IsBlk w2 (w.heap.size+1) 89 #[.int .i64 op,.int .i64 0,.string { data:=#[] },.string { data:=#[] },.string { data:=#[] },.slice none 0 0]:=by rw[Hw2.out];exact laid_at (by simp) _ _
  obtain⟨x0,x1,x2,x3,x4,x5,xl⟩:=exBox he2
  obtain⟨y0,y1,y2,y3,y4,y5,hlw⟩:=exBox hw2
  have hfz:=hw2.frozen
  have hA5:=x5
  clear he2 hw2
  go_enter Tryz.func52,Tryz.ntmps52
  go_upto_region 2 with (fail)
  rw[← Hw2.out]
  go_wp2_with (first|fail)
  all_goals
   go_ret
   exact⟨rfl,by repeat (first|exact hR|refine Below.setCell ?_ (by simp) _)⟩
theorem rbuilt_19_5  (n:Int) (s name src:ByteArray) (A:Option Addr) (m c:Nat) (args:List Ex) (w:World) (F:Nat→Prop) (d:Nat) (ih:RBuilts F d) (hl:ExsAt F d w A m c args) (ha:args.length=m) (t0:decide (n=0)=true) (t1:noS s=true) (t2:noS name=true) (t3:noS src=true) (t4:decide (m=1)=true) :
  Calls Tryz.prog 52 #[.agg #[.int .i64 19,.int .i64 n,.string s,.string name,.string src,.slice A m c]] w fun x w'=>x=.returned (.bool (headR 19 n s name src args.length&&args.all (builtE d)))∧Below w.heap.size w w':=by
 have hfin:headR 19 n s name src args.length=true:=by
  rw[ha,headR_19 ]
  simp[t0,t1,t2,t3,t4]
 have Hfin:=Lhd hfin
 clear hfin
 have t0b:(n==0)=true:=by simpa using t0
 have t0c:(n !=0)=false:=by simpa using t0
 clear t0
 replace t1:=str_empty t1
 replace t2:=str_empty t2
 replace t3:=str_empty t3
 have t4b:m=1:=by simpa using t4
 have hmb:m≤1000:=by omega
 have Hm:=Lhd t4b
 have t4c:((m:Int) !=1)=false:=by simp;omega
 clear t4b t4
 obtain⟨w2,Hw2⟩:∃ w2,Hid (w2=(w.alloc (.cells #[.int .i64 19,.int .i64 n,.string s,.string name,.string src,.slice A m c] 89)).alloc (.cells #[.int .i64 19,.int .i64 0,.string { data:=#[] },.string { data:=#[] },.string { data:=#[] },.slice none 0 0] 89)):=⟨_,rfl⟩
 have hR:Below w.heap.size w w2:=by rw[Hw2.out];exact((Below.refl _ _).alloc (Nat.le_refl _) _).alloc (by simp) _
 have he2:IsBlk w2 w.heap.size 89 #[.int .i64 19,.int .i64 n,.string s,.string name,.string src,.slice A m c]:=by rw[Hw2.out];exact(IsBlk.laid _ _ _).alloc _
 have hw2:IsBlk w2 (w.heap.size+1) 89 #[.int .i64 19,.int .i64 0,.string { data:=#[] },.string { data:=#[] },.string { data:=#[] },.slice none 0 0]:=by rw[Hw2.out];exact laid_at (by simp) _ _
 obtain⟨x0,x1,x2,x3,x4,x5,xl⟩:=exBox he2
 obtain⟨y0,y1,y2,y3,y4,y5,hlw⟩:=exBox hw2
 have hfz:=hw2.frozen
 have hA5:=x5
 clear he2 hw2
 have Hl:=Lhd (fun W (hW:Below w.heap.size w W)=>ExsAt.below hl hW)
 have Ha:=Lhd ha
 clear ha hl
 go_enter Tryz.func52,Tryz.ntmps52
 go_upto_region 2 with (fail)
 rw[← Hw2.out]
 go_wp2_with (first|fail)
 obtain⟨g5,gl⟩:w2.cell? ⟨w.heap.size,5,none⟩=some (.slice A m c)∧w.heap.size<w2.heap.size:=⟨hA5,by omega⟩
 have Hg:=Lhd (fun W (hW:Below w2.heap.size w2 W)=>(hW.cell (p:=⟨w.heap.size,5,none⟩) gl).trans g5)
 clear g5 hA5 x0 x1 x2 x3 x4 x5 y0 y1 y2 y3 y4 y5
 go_loopw [5] (fun i wr=>∃ k:Nat,k≤m∧i=.int .i64 k∧(∀ y∈args.take k,builtE d y=true)∧Below w2.heap.size w2 wr) (fun i _=>m-(intOf i).toNat)
 case atStart=>exact⟨0,Nat.zero_le _,rfl,by simp,Below.refl _ _⟩
 case round =>
  obtain⟨k,hk,rfl,hall,hB⟩:=hrel
  have Hall:=Lhd hall
  clear hall
  have g5:=Hg.out wr hB
  have glr:=Nat.lt_of_lt_of_le gl hB.size
  have hRw:=hR.trans (hB.mono hR.size)
  by_cases hlt:k<m
  ·have hki:decide ((k:Int)<1)=true:=by have hm:=Hm.out;rw[decide_eq_true_iff];omega
   cases d with
   | zero =>
    obtain⟨b,o,r,e,hA,hbl,_,he,hl,hp,hc⟩:=LsAt.get (Hl.out wr hRw) hlt
    exact hp.elim
   | succ d =>
    obtain⟨b,o,x,A2,m2,c2,rfl,hbl,hx,hc0,hc1,hc2,hc3,hc4,hc5,hp,_⟩:=ExsAt.get (Hl.out wr hRw) hlt
    have Hx:=Lhd hx
    clear hx
    obtain⟨q,Hq⟩:∃ q,Hid (builtE (d+1) x=q):=⟨_,rfl⟩
    have hcall:=ih x _ wr hp
    rw[Hq.out] at hcall
    have Hc:=Lhd hcall
    clear hcall
    cases q
    ·go_wp2_with (go_at_call 52;refine Hc.out.mono ?_;rintro y w9 ⟨rfl,hb9⟩)
     go_ret
     have hno:args.all (builtE (d+1))=false:=by rw[List.all_eq_false];exact⟨x,List.mem_of_getElem? Hx.out,by rw[Hq.out];simp⟩
     exact⟨ret_bool (by rw[Hfin.out,hno];rfl),hRw.trans (hb9.mono hRw.size)⟩
    ·have Hnx:=Lhd (mem_take_succ Hx.out Hall.out Hq.out)
     go_wp2_with (go_at_call 52;refine Hc.out.mono ?_;rintro y w9 ⟨rfl,hb9⟩)
     go_roundw
     case rel=>exact⟨k+1,by omega,by go_num,Hnx.out,hB.trans (hb9.mono hB.size)⟩
     case measure=>simp[intOf];omega
  ·have hki:decide ((k:Int)<1)=false:=by have hm:=Hm.out;rw[decide_eq_false_iff_not];omega
   go_wp2
   go_ret
   have h1:=Hall.out
   rw[List.take_of_length_le (by rw[Ha.out];omega)] at h1
   have hyes:args.all (builtE d)=true:=by rw[List.all_eq_true];exact h1
   exact⟨ret_bool (by rw[Hfin.out,hyes];rfl),hRw⟩
theorem rbuiltK_19  (n:Int) (s name src:ByteArray) (A:Option Addr) (m c:Nat) (args:List Ex) (w:World) (F:Nat→Prop) (d:Nat) (ih:RBuilts F d) (hl:ExsAt F d w A m c args) :
  Calls Tryz.prog 52 #[.agg #[.int .i64 19,.int .i64 n,.string s,.string name,.string src,.slice A m c]] w fun x w'=>x=.returned (.bool (headR 19 n s name src args.length&&args.all (builtE d)))∧Below w.heap.size w w':=by
 have ha:=LsAt.len hl
 cases t0:decide (n=0)
 rotate_left
 cases t1:noS s
 rotate_left
 cases t2:noS name
 rotate_left
 cases t3:noS src
 rotate_left
 cases t4:decide (m=1)
 rotate_left
 exact rbuilt_19_5 n s name src A m c args w F d ih hl ha t0 t1 t2 t3 t4
 all_goals
  generalize hfin:headR 19 n s name src args.length=fin
  rw[ha,headR_19 ] at hfin
  simp[*] at hfin
  subst hfin
  clear hl ha ih
  first|(obtain⟨t0b,t0c⟩:=z_yes t0;clear t0)|(obtain⟨t0b,t0c⟩:=z_no t0;clear t0)|skip
  first|replace t1:=str_empty t1|(have q:=str_neq t1;clear t1;obtain⟨t1,t1b,t1c⟩:=q)|skip
  first|replace t2:=str_empty t2|(have q:=str_neq t2;clear t2;obtain⟨t2,t2b,t2c⟩:=q)|skip
  first|replace t3:=str_empty t3|(have q:=str_neq t3;clear t3;obtain⟨t3,t3b,t3c⟩:=q)|skip
  first|replace t4:=l1_no t4|skip
  obtain⟨w2,Hw2⟩:∃ w2,Hid (w2=(w.alloc (.cells #[.int .i64 19,.int .i64 n,.string s,.string name,.string src,.slice A m c] 89)).alloc (.cells #[.int .i64 19,.int .i64 0,.string { data:=#[] },.string { data:=#[] },.string { data:=#[] },.slice none 0 0] 89)):=⟨_,rfl⟩
  have hR:Below w.heap.size w w2:=by rw[Hw2.out];exact((Below.refl _ _).alloc (Nat.le_refl _) _).alloc (by simp) _
  have he2:IsBlk w2 w.heap.size 89 #[.int .i64 19,.int .i64 n,.string s,.string name,.string src,.slice A m c]:=by rw[Hw2.out];exact(IsBlk.laid _ _ _).alloc _
  have hw2:IsBlk w2 (w.heap.size+1) 89 #[.int .i64 19,.int .i64 0,.string { data:=#[] },.string { data:=#[] },.string { data:=#[] },.slice none 0 0]:=by rw[Hw2.out];exact laid_at (by simp) _ _
  obtain⟨x0,x1,x2,x3,x4,x5,xl⟩:=exBox he2
  obtain⟨y0,y1,y2,y3,y4,y5,hlw⟩:=exBox hw2
  have hfz:=hw2.frozen
  have hA5:=x5
  clear he2 hw2
  go_enter Tryz.func52,Tryz.ntmps52
  go_upto_region 2 with (fail)
  rw[← Hw2.out]
  go_wp2_with (first|fail)
  all_goals
   go_ret
   exact⟨rfl,by repeat (first|exact hR|refine Below.setCell ?_ (by simp) _)⟩
theorem rbuilt_20_5  (n:Int) (s name src:ByteArray) (A:Option Addr) (m c:Nat) (args:List Ex) (w:World) (F:Nat→Prop) (d:Nat) (ih:RBuilts F d) (hl:ExsAt F d w A m c args) (ha:args.length=m) (t0:decide (n=0)=true) (t1:noS s=true) (t2:noS name=true) (t3:noS src=true) (t4:decide (m=1)=true) :
  Calls Tryz.prog 52 #[.agg #[.int .i64 20,.int .i64 n,.string s,.string name,.string src,.slice A m c]] w fun x w'=>x=.returned (.bool (headR 20 n s name src args.length&&args.all (builtE d)))∧Below w.heap.size w w':=by
 have hfin:headR 20 n s name src args.length=true:=by
  rw[ha,headR_20 ]
  simp[t0,t1,t2,t3,t4]
 have Hfin:=Lhd hfin
 clear hfin
 have t0b:(n==0)=true:=by simpa using t0
 have t0c:(n !=0)=false:=by simpa using t0
 clear t0
 replace t1:=str_empty t1
 replace t2:=str_empty t2
 replace t3:=str_empty t3
 have t4b:m=1:=by simpa using t4
 have hmb:m≤1000:=by omega
 have Hm:=Lhd t4b
 have t4c:((m:Int) !=1)=false:=by simp;omega
 clear t4b t4
 obtain⟨w2,Hw2⟩:∃ w2,Hid (w2=(w.alloc (.cells #[.int .i64 20,.int .i64 n,.string s,.string name,.string src,.slice A m c] 89)).alloc (.cells #[.int .i64 20,.int .i64 0,.string { data:=#[] },.string { data:=#[] },.string { data:=#[] },.slice none 0 0] 89)):=⟨_,rfl⟩
 have hR:Below w.heap.size w w2:=by rw[Hw2.out];exact((Below.refl _ _).alloc (Nat.le_refl _) _).alloc (by simp) _
 have he2:IsBlk w2 w.heap.size 89 #[.int .i64 20,.int .i64 n,.string s,.string name,.string src,.slice A m c]:=by rw[Hw2.out];exact(IsBlk.laid _ _ _).alloc _
 have hw2:IsBlk w2 (w.heap.size+1) 89 #[.int .i64 20,.int .i64 0,.string { data:=#[] },.string { data:=#[] },.string { data:=#[] },.slice none 0 0]:=by rw[Hw2.out];exact laid_at (by simp) _ _
 obtain⟨x0,x1,x2,x3,x4,x5,xl⟩:=exBox he2
 obtain⟨y0,y1,y2,y3,y4,y5,hlw⟩:=exBox hw2
 have hfz:=hw2.frozen
 have hA5:=x5
 clear he2 hw2
 have Hl:=Lhd (fun W (hW:Below w.heap.size w W)=>ExsAt.below hl hW)
 have Ha:=Lhd ha
 clear ha hl
 go_enter Tryz.func52,Tryz.ntmps52
 go_upto_region 2 with (fail)
 rw[← Hw2.out]
 go_wp2_with (first|fail)
 obtain⟨g5,gl⟩:w2.cell? ⟨w.heap.size,5,none⟩=some (.slice A m c)∧w.heap.size<w2.heap.size:=⟨hA5,by omega⟩
 have Hg:=Lhd (fun W (hW:Below w2.heap.size w2 W)=>(hW.cell (p:=⟨w.heap.size,5,none⟩) gl).trans g5)
 clear g5 hA5 x0 x1 x2 x3 x4 x5 y0 y1 y2 y3 y4 y5
 go_loopw [5] (fun i wr=>∃ k:Nat,k≤m∧i=.int .i64 k∧(∀ y∈args.take k,builtE d y=true)∧Below w2.heap.size w2 wr) (fun i _=>m-(intOf i).toNat)
 case atStart=>exact⟨0,Nat.zero_le _,rfl,by simp,Below.refl _ _⟩
 case round =>
  obtain⟨k,hk,rfl,hall,hB⟩:=hrel
  have Hall:=Lhd hall
  clear hall
  have g5:=Hg.out wr hB
  have glr:=Nat.lt_of_lt_of_le gl hB.size
  have hRw:=hR.trans (hB.mono hR.size)
  by_cases hlt:k<m
  ·have hki:decide ((k:Int)<1)=true:=by have hm:=Hm.out;rw[decide_eq_true_iff];omega
   cases d with
   | zero =>
    obtain⟨b,o,r,e,hA,hbl,_,he,hl,hp,hc⟩:=LsAt.get (Hl.out wr hRw) hlt
    exact hp.elim
   | succ d =>
    obtain⟨b,o,x,A2,m2,c2,rfl,hbl,hx,hc0,hc1,hc2,hc3,hc4,hc5,hp,_⟩:=ExsAt.get (Hl.out wr hRw) hlt
    have Hx:=Lhd hx
    clear hx
    obtain⟨q,Hq⟩:∃ q,Hid (builtE (d+1) x=q):=⟨_,rfl⟩
    have hcall:=ih x _ wr hp
    rw[Hq.out] at hcall
    have Hc:=Lhd hcall
    clear hcall
    cases q
    ·go_wp2_with (go_at_call 52;refine Hc.out.mono ?_;rintro y w9 ⟨rfl,hb9⟩)
     go_ret
     have hno:args.all (builtE (d+1))=false:=by rw[List.all_eq_false];exact⟨x,List.mem_of_getElem? Hx.out,by rw[Hq.out];simp⟩
     exact⟨ret_bool (by rw[Hfin.out,hno];rfl),hRw.trans (hb9.mono hRw.size)⟩
    ·have Hnx:=Lhd (mem_take_succ Hx.out Hall.out Hq.out)
     go_wp2_with (go_at_call 52;refine Hc.out.mono ?_;rintro y w9 ⟨rfl,hb9⟩)
     go_roundw
     case rel=>exact⟨k+1,by omega,by go_num,Hnx.out,hB.trans (hb9.mono hB.size)⟩
     case measure=>simp[intOf];omega
  ·have hki:decide ((k:Int)<1)=false:=by have hm:=Hm.out;rw[decide_eq_false_iff_not];omega
   go_wp2
   go_ret
   have h1:=Hall.out
   rw[List.take_of_length_le (by rw[Ha.out];omega)] at h1
   have hyes:args.all (builtE d)=true:=by rw[List.all_eq_true];exact h1
   exact⟨ret_bool (by rw[Hfin.out,hyes];rfl),hRw⟩
theorem rbuiltK_20  (n:Int) (s name src:ByteArray) (A:Option Addr) (m c:Nat) (args:List Ex) (w:World) (F:Nat→Prop) (d:Nat) (ih:RBuilts F d) (hl:ExsAt F d w A m c args) :
  Calls Tryz.prog 52 #[.agg #[.int .i64 20,.int .i64 n,.string s,.string name,.string src,.slice A m c]] w fun x w'=>x=.returned (.bool (headR 20 n s name src args.length&&args.all (builtE d)))∧Below w.heap.size w w':=by
 have ha:=LsAt.len hl
 cases t0:decide (n=0)
 rotate_left
 cases t1:noS s
 rotate_left
 cases t2:noS name
 rotate_left
 cases t3:noS src
 rotate_left
 cases t4:decide (m=1)
 rotate_left
 exact rbuilt_20_5 n s name src A m c args w F d ih hl ha t0 t1 t2 t3 t4
 all_goals
  generalize hfin:headR 20 n s name src args.length=fin
  rw[ha,headR_20 ] at hfin
  simp[*] at hfin
  subst hfin
  clear hl ha ih
  first|(obtain⟨t0b,t0c⟩:=z_yes t0;clear t0)|(obtain⟨t0b,t0c⟩:=z_no t0;clear t0)|skip
  first|replace t1:=str_empty t1|(have q:=str_neq t1;clear t1;obtain⟨t1,t1b,t1c⟩:=q)|skip
  first|replace t2:=str_empty t2|(have q:=str_neq t2;clear t2;obtain⟨t2,t2b,t2c⟩:=q)|skip
  first|replace t3:=str_empty t3|(have q:=str_neq t3;clear t3;obtain⟨t3,t3b,t3c⟩:=q)|skip
  first|replace t4:=l1_no t4|skip
  obtain⟨w2,Hw2⟩:∃ w2,Hid (w2=(w.alloc (.cells #[.int .i64 20,.int .i64 n,.string s,.string name,.string src,.slice A m c] 89)).alloc (.cells #[.int .i64 20,.int .i64 0,.string { data:=#[] },.string { data:=#[] },.string { data:=#[] },.slice none 0 0] 89)):=⟨_,rfl⟩
  have hR:Below w.heap.size w w2:=by rw[Hw2.out];exact((Below.refl _ _).alloc (Nat.le_refl _) _).alloc (by simp) _
  have he2:IsBlk w2 w.heap.size 89 #[.int .i64 20,.int .i64 n,.string s,.string name,.string src,.slice A m c]:=by rw[Hw2.out];exact(IsBlk.laid _ _ _).alloc _
  have hw2:IsBlk w2 (w.heap.size+1) 89 #[.int .i64 20,.int .i64 0,.string { data:=#[] },.string { data:=#[] },.string { data:=#[] },.slice none 0 0]:=by rw[Hw2.out];exact laid_at (by simp) _ _
  obtain⟨x0,x1,x2,x3,x4,x5,xl⟩:=exBox he2
  obtain⟨y0,y1,y2,y3,y4,y5,hlw⟩:=exBox hw2
  have hfz:=hw2.frozen
  have hA5:=x5
  clear he2 hw2
  go_enter Tryz.func52,Tryz.ntmps52
  go_upto_region 2 with (fail)
  rw[← Hw2.out]
  go_wp2_with (first|fail)
  all_goals
   go_ret
   exact⟨rfl,by repeat (first|exact hR|refine Below.setCell ?_ (by simp) _)⟩
theorem headR_none {n:Int} {s name src:ByteArray} {l:Nat} (op:Int) (h:op<1∨24<op):headR op n s name src l=false:=by
 have ha:arityB op = -1:=by unfold arityB;repeat (first|rw[if_pos (by omega)]|rw[if_neg (by omega)])
 rw[headR,ha,decide_eq_false (by omega)]
 rfl
theorem rbuilt_none (op n:Int) (s name src:ByteArray) (A:Option Addr) (m c:Nat) (w:World) (h:op<1∨24<op) :
  Calls Tryz.prog 52 #[.agg #[.int .i64 op,.int .i64 n,.string s,.string name,.string src,.slice A m c]] w fun x w'=>x=.returned (.bool false)∧Below w.heap.size w w':=by
 have e1:(op==1)=false:=by simp;omega
 have e2:(op==2)=false:=by simp;omega
 have e3:(op==3)=false:=by simp;omega
 have e4:(op==4)=false:=by simp;omega
 have e5:(op==5)=false:=by simp;omega
 have e19:(op==19)=false:=by simp;omega
 have e20:(op==20)=false:=by simp;omega
 obtain⟨w2,Hw2⟩:∃ w2,Hid (w2=(w.alloc (.cells #[.int .i64 op,.int .i64 n,.string s,.string name,.string src,.slice A m c] 89)).alloc (.cells #[.int .i64 op,.int .i64 0,.string { data:=#[] },.string { data:=#[] },.string { data:=#[] },.slice none 0 0] 89)):=⟨_,rfl⟩
 have hR:Below w.heap.size w w2:=by rw[Hw2.out];exact((Below.refl _ _).alloc (Nat.le_refl _) _).alloc (by simp) _
 have he2:IsBlk w2 w.heap.size 89 #[.int .i64 op,.int .i64 n,.string s,.string name,.string src,.slice A m c]:=by rw[Hw2.out];exact(IsBlk.laid _ _ _).alloc _
 obtain⟨x0,x1,x2,x3,x4,x5,xl⟩:=exBox he2
 clear he2
 rcases h with h|h
 ·have f1:decide ((21:Int)≤op)=false:=by simp;omega
  have f4:decide ((6:Int)≤op)=false:=by simp;omega
  go_enter Tryz.func52,Tryz.ntmps52
  go_upto_region 2 with (fail)
  rw[← Hw2.out]
  go_wp2
  go_ret
  exact⟨rfl,hR⟩
 ·have f1:decide ((21:Int)≤op)=true:=by simp;omega
  have f2:decide (op≤(24:Int))=false:=by simp;omega
  have f4:decide ((6:Int)≤op)=true:=by simp;omega
  have f5:decide (op≤(18:Int))=false:=by simp;omega
  go_enter Tryz.func52,Tryz.ntmps52
  go_upto_region 2 with (fail)
  rw[← Hw2.out]
  go_wp2
  go_ret
  exact⟨rfl,hR⟩
theorem rbuilt_any (F:Nat→Prop) (d:Nat):RBuilts F d:=by
 induction d with
 | zero=>intro e row w h;exact h.elim
 | succ d ih =>
  intro e row w h
  obtain⟨ho,hn,hs,hnm,hsr,A,m,c,rfl,hl⟩:=h.open_
  have hfin:builtE (d+1) e=(headR e.op e.n e.s e.name e.src e.args.length&&e.args.all (builtE d)):=rfl
  rw[hfin]
  by_cases h1:e.op=1
  ·rw[h1];exact rbuiltK_1 e.n e.s e.name e.src A m c e.args w F d hl
  by_cases h2:e.op=2
  ·rw[h2];exact rbuiltK_2 e.n e.s e.name e.src A m c e.args w F d hl
  by_cases h3:e.op=3
  ·rw[h3];exact rbuiltK_3 e.n e.s e.name e.src A m c e.args w F d hl
  by_cases h4:e.op=4
  ·rw[h4];exact rbuiltK_4 e.n e.s e.name e.src A m c e.args w F d hl hnm
  by_cases h5:e.op=5
  ·rw[h5];exact rbuiltK_5 e.n e.s e.name e.src A m c e.args w F d hl hnm hs
  by_cases h21:e.op=21
  ·rw[h21];exact rbuiltK_21 e.n e.s e.name e.src A m c e.args w F d ih hl hnm hsr
  by_cases h19:e.op=19
  ·rw[h19];exact rbuiltK_19 e.n e.s e.name e.src A m c e.args w F d ih hl
  by_cases h20:e.op=20
  ·rw[h20];exact rbuiltK_20 e.n e.s e.name e.src A m c e.args w F d ih hl
  by_cases hr:22≤e.op∧e.op≤24
  ·exact rbuiltK_r e.op hr.1 hr.2 e.n e.s e.name e.src A m c e.args w F d ih hl hnm hsr
  by_cases hr:6≤e.op∧e.op≤18
  ·exact rbuiltK_t e.op hr.1 hr.2 e.n e.s e.name e.src A m c e.args w F d ih hl
  rw[headR_none e.op (by omega),Bool.false_and]
  exact rbuilt_none e.op e.n e.s e.name e.src A m c w (by omega)
def fOf (op:Int):ByteArray :=
 if op=1∨op=2 then str [110] else if op=3∨op=8 then str [115] else if op=4 then str [110,115,99] else if op=5 then str [110,115] else if op=6 then str [110,115,78,98] else if op=7 then str [98,101] else str []
def hN (op:Int):Bool:=decide (op=1∨op=2∨op=4∨op=5∨op=6)
def hS (op:Int):Bool:=decide (op=3∨op=4∨op=5∨op=6∨op=8)
def hC (op:Int):Bool:=decide (op=4)
def hM (op:Int):Bool:=decide (op=6)
def hB (op:Int):Bool:=decide (op=6∨op=7)
def hE (op:Int):Bool:=decide (op=7)
theorem okS_fOf (op:Int):okS (fOf op):=by
 unfold fOf okS
 repeat' split
 all_goals decide
theorem fOf_cases (op:Int) (h1:1≤op) (h2:op≤10):op=1∨op=2∨op=3∨op=4∨op=5∨op=6∨op=7∨op=8∨op=9∨op=10:=by omega
theorem inB_n (op:Int) (h1:1≤op) (h2:op≤10):inB (fOf op) 110=hN op∧inB (fOf op) 115=hS op∧inB (fOf op) 99=hC op∧inB (fOf op) 78=hM op∧inB (fOf op) 98=hB op∧inB (fOf op) 101=hE op:=by
 rcases fOf_cases op h1 h2 with rfl|rfl|rfl|rfl|rfl|rfl|rfl|rfl|rfl|rfl<;>decide +kernel
theorem in_at (f:ByteArray) (c:UInt8) (k:Int) (b:Bool) (hf:okS f) (hk:(c.toNat:Int)=k) (hb:inB f c=b) (w:World):Calls Tryz.prog 51 #[.string f,.int .u8 k] w fun x w'=>x=.returned (.bool b)∧w=w':=by
 subst hk hb
 exact in_any f c w hf
/- the tests, in their order -/
def tA (op:Int) (name src:ByteArray):Bool:=(hN op !=!noS name)||(hS op !=!noS src)||(hN op&&!freeB name)||(hS op&&!freeB src)
def tB (op n:Int) (nc nb nl:Nat):Bool:=(hC op !=decide (0<nc))||decide (8<nc)||(!hM op&&decide (n≠0))||decide (n<0)||decide (1000<n)||(!hB op&&decide (0<nb))||(!hE op&&decide (0<nl))
def tMany (op:Int):Bool:=decide (op=3∨op=8∨op=10)
def tD (op:Int) (nc ne:Nat):Bool:=(tMany op&&(decide (ne<1)||decide (8<ne)))||(!tMany op&&decide (ne≠1+nc))
def refS (op:Int) (name src:ByteArray) (n:Int) (cols:List ByteArray) (ne nb nl:Nat):Bool :=
 decide (1≤op)&&decide (op≤10)&&!tA op name src&&!tB op n cols.length nb nl&&(cols.all freeB&&decide cols.Nodup)&&!tD op cols.length ne
theorem free_some {s:ByteArray} (h:freeB s=true):noS s=false:=by
 cases hn:noS s
 ·rfl
 ·unfold noS at hn
  have:s=ByteArray.empty:=by simpa using hn
  subst this
  have h2:freeB ByteArray.empty=false:=rfl
  rw[h2] at h
  cases h
theorem refS_shape (op:Int) (name src:ByteArray) (n:Int) (cols:List ByteArray) (ne nb nl:Nat):refS op name src n cols ne nb nl=shapeR op name src n cols ne nb nl:=by
 by_cases h:1≤op∧op≤10
 ·obtain⟨h1,h2⟩:=h
  have f1:=@free_some name
  have f2:=@free_some src
  unfold shapeR shapeP refS tA tB tD tMany hN hS hC hM hB hE
  rw[freesB_all]
  have hnil:cols.length=0→cols.all freeB=true∧decide cols.Nodup=true:=fun h=>by
   have:=List.eq_nil_of_length_eq_zero h
   subst this
   simp
  generalize cols.all freeB=fc at *
  generalize decide cols.Nodup=nd at *
  generalize cols.length=nc at *
  generalize freeB name=a at *
  generalize freeB src=d at *
  generalize noS name=b at *
  generalize noS src=e at *
  rcases fOf_cases op h1 h2 with rfl|rfl|rfl|rfl|rfl|rfl|rfl|rfl|rfl|rfl
  all_goals
   rcases Nat.eq_zero_or_pos nc with hn0|hn0
   ·obtain⟨rfl,rfl⟩:=hnil hn0
    subst hn0
    clear hnil
    cases a<;>cases b<;>cases d<;>cases e<;>first|(simp at f1;done)|(simp at f2;done)|(rw[Bool.eq_iff_iff];simp;done)|(rw[Bool.eq_iff_iff];simp;omega)
   ·clear hnil
    cases a<;>cases b<;>cases d<;>cases e<;>first|(simp at f1;done)|(simp at f2;done)|(rw[Bool.eq_iff_iff];simp;done)|(rw[Bool.eq_iff_iff];simp;omega)|(cases fc<;>cases nd<;>first|(rw[Bool.eq_iff_iff];simp;done)|(rw[Bool.eq_iff_iff];simp;omega))
 ·have hl:refS op name src n cols ne nb nl=false:=by
   unfold refS
   by_cases h1:1≤op
   ·have h2:¬ op≤10:=fun h2=>h ⟨h1,h2⟩
    simp[h2]
   ·simp[h1]
  rw[hl]
  unfold shapeR
  repeat' (rw[if_neg (by omega)])
end Go.Proofs.YtmfcmpnlipnopaaGreat
