/- Parts of this proof, one behind the other: RefE4, RefF, RefN, PrtP, PrtA, PrtB, PrtC, PrtT0, PrtT. -/
import Derived.Test.YtgbgiknfejpcoaaGreatPx8
import Derived.Test.YtgbgiknfejpcoaaGreatPx9
import Derived.Test.YtgbgiknfejpcoaaGreatPx1
import Derived.Deep.RegionHeld3
import Derived.Test.YtgbgiknfejpcoaaGreatPx2
import Derived.Test.YtgbgiknfejpcoaaGreatProg
import Derived.Laws.IdiomStrings
import Derived.WalkLawsBesides
import Derived.Lib.Hide
import Derived.Outline
import Derived.Lib.Builder
import Derived.Lib.AppendStr
import Derived.Lib.UnsafeStr
import Derived.Laws.Externs
import Derived.Laws.IdiomCopy
import Derived.Lib.Strings
import Derived.Defers
import Derived.RegionTactic
import Derived.ChangeAlike
import Derived.Deep.Cut
set_option maxRecDepth 1000000
set_option maxHeartbeats 40000000
namespace Go.Proofs.YtgbgiknfejpcoaaGreat
open Go.RowKit Go.Afx
theorem rbuilt_t_5 (op:Int) (h6:6≤op) (h18:op≤18) (n:Int) (s name src:ByteArray) (A:Option Addr) (m c:Nat) (args:List Ex) (w:World) (F:Nat→Prop) (d:Nat) (ih:RBuilts F d) (hl:ExsAt F d w A m c args) (ha:args.length=m) (t0:decide (n=0)=true) (t1:noS s=true) (t2:noS name=true) (t3:noS src=true) (t4:decide (m=2)=true) :
  Calls Tryz.prog 41 #[.agg #[.int .i64 op,.int .i64 n,.string s,.string name,.string src,.slice A m c]] w fun x w'=>x=.returned (.bool (headR op n s name src args.length&&args.all (builtE d)))∧Below w.heap.size w w':=by
 have hfin:headR op n s name src args.length=true:=by
  rw[ha,headR_t op (by omega) (by omega)]
  simp[t0,t1,t2,t3,t4]
 have Hfin:=Lhd hfin
 clear hfin
 have e1:(op==1)=false:=by simp;omega
 have e2:(op==2)=false:=by simp;omega
 have e3:(op==3)=false:=by simp;omega
 have e4:(op==4)=false:=by simp;omega
 have e5:(op==5)=false:=by simp;omega
 have e21:(op==21)=false:=by simp;omega
 have f1:decide ((21:Int)≤op)=false:=by simp;omega
 have f4:decide ((6:Int)≤op)=true:=by simp;omega
 have f5:decide (op≤(18:Int))=true:=by simp;omega
 have t0b:(n==0)=true:=by simpa using t0
 have t0c:(n !=0)=false:=by simpa using t0
 clear t0
 replace t1:=str_empty t1
 replace t2:=str_empty t2
 replace t3:=str_empty t3
 have t4b:m=2:=by simpa using t4
 have hmb:m≤1000:=by omega
 have Hm:=Lhd t4b
 have t4c:((m:Int) !=2)=false:=by simp;omega
 clear t4b t4
 obtain⟨w2,Hw2⟩:∃ w2,Hid (w2=(w.alloc (.cells #[.int .i64 op,.int .i64 n,.string s,.string name,.string src,.slice A m c] 60)).alloc (.cells #[.int .i64 op,.int .i64 0,.string { data:=#[] },.string { data:=#[] },.string { data:=#[] },.slice none 0 0] 60)):=⟨_,rfl⟩
 have hR:Below w.heap.size w w2:=by rw[Hw2.out];exact((Below.refl _ _).alloc (Nat.le_refl _) _).alloc (by simp) _
 have he2:IsBlk w2 w.heap.size 60 #[.int .i64 op,.int .i64 n,.string s,.string name,.string src,.slice A m c]:=by rw[Hw2.out];exact(IsBlk.laid _ _ _).alloc _
 have hw2:IsBlk w2 (w.heap.size+1) 60 #[.int .i64 op,.int .i64 0,.string { data:=#[] },.string { data:=#[] },.string { data:=#[] },.slice none 0 0]:=by rw[Hw2.out];exact laid_at (by simp) _ _
 obtain⟨x0,x1,x2,x3,x4,x5,xl⟩:=exBox he2
 obtain⟨y0,y1,y2,y3,y4,y5,hlw⟩:=exBox hw2
 have hfz:=hw2.frozen
 have hA5:=x5
 clear he2 hw2
 have Hl:=Lhd (fun W (hW:Below w.heap.size w W)=>ExsAt.below hl hW)
 have Ha:=Lhd ha
 clear ha hl
 go_enter Tryz.func41,Tryz.ntmps41
 go_upto_region 2 with (fail)
 rw[← Hw2.out]
 go_wp2_with (first|fail)
 obtain⟨g5,gl⟩:w2.cell? ⟨w.heap.size,5,none⟩=some (.slice A m c)∧w.heap.size<w2.heap.size:=⟨hA5,by omega⟩
 have Hg:=Lhd (fun W (hW:Below w2.heap.size w2 W)=>(hW.cell (p:=⟨w.heap.size,5,none⟩) gl).trans g5)
 clear g5 hA5 x0 x1 x2 x3 x4 x5 y0 y1 y2 y3 y4 y5
 go_loopw [5] (fun i wr=>∃ k:Nat,k≤m∧i=.int .i64 k∧(∀ y∈args.take k,builtE d y=true)∧Below w2.heap.size w2 wr) (fun i _=>m-(intOf i).toNat)
 case atStart=>exact⟨0,Nat.zero_le _,rfl,by simp,Below.refl _ _⟩
 case round =>
  obtain⟨k,hk,rfl,hall,hB⟩:=hrel
  have Hall:=Lhd hall
  clear hall
  have g5:=Hg.out wr hB
  have glr:=Nat.lt_of_lt_of_le gl hB.size
  have hRw:=hR.trans (hB.mono hR.size)
  by_cases hlt:k<m
  ·have hki:decide ((k:Int)<2)=true:=by have hm:=Hm.out;rw[decide_eq_true_iff];omega
   cases d with
   | zero =>
    obtain⟨b,o,r,e,hA,hbl,_,he,hl,hp,hc⟩:=LsAt.get (Hl.out wr hRw) hlt
    exact hp.elim
   | succ d =>
    obtain⟨b,o,x,A2,m2,c2,rfl,hbl,hx,hc0,hc1,hc2,hc3,hc4,hc5,hp,_⟩:=ExsAt.get (Hl.out wr hRw) hlt
    have Hx:=Lhd hx
    clear hx
    obtain⟨q,Hq⟩:∃ q,Hid (builtE (d+1) x=q):=⟨_,rfl⟩
    have hcall:=ih x _ wr hp
    rw[Hq.out] at hcall
    have Hc:=Lhd hcall
    clear hcall
    cases q
    ·go_wp2_with (go_at_call 41;refine Hc.out.mono ?_;rintro y w9 ⟨rfl,hb9⟩)
     go_ret
     have hno:args.all (builtE (d+1))=false:=by rw[List.all_eq_false];exact⟨x,List.mem_of_getElem? Hx.out,by rw[Hq.out];simp⟩
     exact⟨ret_bool (by rw[Hfin.out,hno];rfl),hRw.trans (hb9.mono hRw.size)⟩
    ·have Hnx:=Lhd (mem_take_succ Hx.out Hall.out Hq.out)
     go_wp2_with (go_at_call 41;refine Hc.out.mono ?_;rintro y w9 ⟨rfl,hb9⟩)
     go_roundw
     case rel=>exact⟨k+1,by omega,by go_num,Hnx.out,hB.trans (hb9.mono hB.size)⟩
     case measure=>simp[intOf];omega
  ·have hki:decide ((k:Int)<2)=false:=by have hm:=Hm.out;rw[decide_eq_false_iff_not];omega
   go_wp2
   go_ret
   have h1:=Hall.out
   rw[List.take_of_length_le (by rw[Ha.out];omega)] at h1
   have hyes:args.all (builtE d)=true:=by rw[List.all_eq_true];exact h1
   exact⟨ret_bool (by rw[Hfin.out,hyes];rfl),hRw⟩
theorem rbuiltK_t (op:Int) (h6:6≤op) (h18:op≤18) (n:Int) (s name src:ByteArray) (A:Option Addr) (m c:Nat) (args:List Ex) (w:World) (F:Nat→Prop) (d:Nat) (ih:RBuilts F d) (hl:ExsAt F d w A m c args) :
  Calls Tryz.prog 41 #[.agg #[.int .i64 op,.int .i64 n,.string s,.string name,.string src,.slice A m c]] w fun x w'=>x=.returned (.bool (headR op n s name src args.length&&args.all (builtE d)))∧Below w.heap.size w w':=by
 have ha:=LsAt.len hl
 cases t0:decide (n=0)
 rotate_left
 cases t1:noS s
 rotate_left
 cases t2:noS name
 rotate_left
 cases t3:noS src
 rotate_left
 cases t4:decide (m=2)
 rotate_left
 exact rbuilt_t_5 op h6 h18 n s name src A m c args w F d ih hl ha t0 t1 t2 t3 t4
 all_goals
  generalize hfin:headR op n s name src args.length=fin
  rw[ha,headR_t op (by omega) (by omega)] at hfin
  simp[*] at hfin
  subst hfin
  clear hl ha ih
  have e1:(op==1)=false:=by simp;omega
  have e2:(op==2)=false:=by simp;omega
  have e3:(op==3)=false:=by simp;omega
  have e4:(op==4)=false:=by simp;omega
  have e5:(op==5)=false:=by simp;omega
  have e21:(op==21)=false:=by simp;omega
  have f1:decide ((21:Int)≤op)=false:=by simp;omega
  have f4:decide ((6:Int)≤op)=true:=by simp;omega
  have f5:decide (op≤(18:Int))=true:=by simp;omega
  first|(obtain⟨t0b,t0c⟩:=z_yes t0;clear t0)|(obtain⟨t0b,t0c⟩:=z_no t0;clear t0)|skip
  first|replace t1:=str_empty t1|(have q:=str_neq t1;clear t1;obtain⟨t1,t1b,t1c⟩:=q)|skip
  first|replace t2:=str_empty t2|(have q:=str_neq t2;clear t2;obtain⟨t2,t2b,t2c⟩:=q)|skip
  first|replace t3:=str_empty t3|(have q:=str_neq t3;clear t3;obtain⟨t3,t3b,t3c⟩:=q)|skip
  first|replace t4:=l2_no t4|skip
  obtain⟨w2,Hw2⟩:∃ w2,Hid (w2=(w.alloc (.cells #[.int .i64 op,.int .i64 n,.string s,.string name,.string src,.slice A m c] 60)).alloc (.cells #[.int .i64 op,.int .i64 0,.string { data:=#[] },.string { data:=#[] },.string { data:=#[] },.slice none 0 0] 60)):=⟨_,rfl⟩
  have hR:Below w.heap.size w w2:=by rw[Hw2.out];exact((Below.refl _ _).alloc (Nat.le_refl _) _).alloc (by simp) _
  have he2:IsBlk w2 w.heap.size 60 #[.int .i64 op,.int .i64 n,.string s,.string name,.string src,.slice A m c]:=by rw[Hw2.out];exact(IsBlk.laid _ _ _).alloc _
  have hw2:IsBlk w2 (w.heap.size+1) 60 #[.int .i64 op,.int .i64 0,.string { data:=#[] },.string { data:=#[] },.string { data:=#[] },.slice none 0 0]:=by rw[Hw2.out];exact laid_at (by simp) _ _
  obtain⟨x0,x1,x2,x3,x4,x5,xl⟩:=exBox he2
  obtain⟨y0,y1,y2,y3,y4,y5,hlw⟩:=exBox hw2
  have hfz:=hw2.frozen
  have hA5:=x5
  clear he2 hw2
  go_enter Tryz.func41,Tryz.ntmps41
  go_upto_region 2 with (fail)
  rw[← Hw2.out]
  go_wp2_with (first|fail)
  all_goals
   go_ret
   exact⟨rfl,by repeat (first|exact hR|refine Below.setCell ?_ (by simp) _)⟩
theorem rbuilt_19_5  (n:Int) (s name src:ByteArray) (A:Option Addr) (m c:Nat) (args:List Ex) (w:World) (F:Nat→Prop) (d:Nat) (ih:RBuilts F d) (hl:ExsAt F d w A m c args) (ha:args.length=m) (t0:decide (n=0)=true) (t1:noS s=true) (t2:noS name=true) (t3:noS src=true) (t4:decide (m=1)=true) :
  Calls Tryz.prog 41 #[.agg #[.int .i64 19,.int .i64 n,.string s,.string name,.string src,.slice A m c]] w fun x w'=>x=.returned (.bool (headR 19 n s name src args.length&&args.all (builtE d)))∧Below w.heap.size w w':=by
 have hfin:headR 19 n s name src args.length=true:=by
  rw[ha,headR_19 ]
  simp[t0,t1,t2,t3,t4]
 have Hfin:=Lhd hfin
 clear hfin
 have t0b:(n==0)=true:=by simpa using t0
 have t0c:(n !=0)=false:=by simpa using t0
 clear t0
 replace t1:=str_empty t1
 replace t2:=str_empty t2
 replace t3:=str_empty t3
 have t4b:m=1:=by simpa using t4
 have hmb:m≤1000:=by omega
 have Hm:=Lhd t4b
 have t4c:((m:Int) !=1)=false:=by simp;omega
 clear t4b t4
 obtain⟨w2,Hw2⟩:∃ w2,Hid (w2=(w.alloc (.cells #[.int .i64 19,.int .i64 n,.string s,.string name,.string src,.slice A m c] 60)).alloc (.cells #[.int .i64 19,.int .i64 0,.string { data:=#[] },.string { data:=#[] },.string { data:=#[] },.slice none 0 0] 60)):=⟨_,rfl⟩
 have hR:Below w.heap.size w w2:=by rw[Hw2.out];exact((Below.refl _ _).alloc (Nat.le_refl _) _).alloc (by simp) _
 have he2:IsBlk w2 w.heap.size 60 #[.int .i64 19,.int .i64 n,.string s,.string name,.string src,.slice A m c]:=by rw[Hw2.out];exact(IsBlk.laid _ _ _).alloc _
 have hw2:IsBlk w2 (w.heap.size+1) 60 #[.int .i64 19,.int .i64 0,.string { data:=#[] },.string { data:=#[] },.string { data:=#[] },.slice none 0 0]:=by rw[Hw2.out];exact laid_at (by simp) _ _
 obtain⟨x0,x1,x2,x3,x4,x5,xl⟩:=exBox he2
 obtain⟨y0,y1,y2,y3,y4,y5,hlw⟩:=exBox hw2
 have hfz:=hw2.frozen
 have hA5:=x5
 clear he2 hw2
 have Hl:=Lhd (fun W (hW:Below w.heap.size w W)=>ExsAt.below hl hW)
 have Ha:=Lhd ha
 clear ha hl
 go_enter Tryz.func41,Tryz.ntmps41
 go_upto_region 2 with (fail)
 rw[← Hw2.out]
 go_wp2_with (first|fail)
 obtain⟨g5,gl⟩:w2.cell? ⟨w.heap.size,5,none⟩=some (.slice A m c)∧w.heap.size<w2.heap.size:=⟨hA5,by omega⟩
 have Hg:=Lhd (fun W (hW:Below w2.heap.size w2 W)=>(hW.cell (p:=⟨w.heap.size,5,none⟩) gl).trans g5)
 clear g5 hA5 x0 x1 x2 x3 x4 x5 y0 y1 y2 y3 y4 y5
 go_loopw [5] (fun i wr=>∃ k:Nat,k≤m∧i=.int .i64 k∧(∀ y∈args.take k,builtE d y=true)∧Below w2.heap.size w2 wr) (fun i _=>m-(intOf i).toNat)
 case atStart=>exact⟨0,Nat.zero_le _,rfl,by simp,Below.refl _ _⟩
 case round =>
  obtain⟨k,hk,rfl,hall,hB⟩:=hrel
  have Hall:=Lhd hall
  clear hall
  have g5:=Hg.out wr hB
  have glr:=Nat.lt_of_lt_of_le gl hB.size
  have hRw:=hR.trans (hB.mono hR.size)
  by_cases hlt:k<m
  ·have hki:decide ((k:Int)<1)=true:=by have hm:=Hm.out;rw[decide_eq_true_iff];omega
   cases d with
   | zero =>
    obtain⟨b,o,r,e,hA,hbl,_,he,hl,hp,hc⟩:=LsAt.get (Hl.out wr hRw) hlt
    exact hp.elim
   | succ d =>
    obtain⟨b,o,x,A2,m2,c2,rfl,hbl,hx,hc0,hc1,hc2,hc3,hc4,hc5,hp,_⟩:=ExsAt.get (Hl.out wr hRw) hlt
    have Hx:=Lhd hx
    clear hx
    obtain⟨q,Hq⟩:∃ q,Hid (builtE (d+1) x=q):=⟨_,rfl⟩
    have hcall:=ih x _ wr hp
    rw[Hq.out] at hcall
    have Hc:=Lhd hcall
    clear hcall
    cases q
    ·go_wp2_with (go_at_call 41;refine Hc.out.mono ?_;rintro y w9 ⟨rfl,hb9⟩)
     go_ret
     have hno:args.all (builtE (d+1))=false:=by rw[List.all_eq_false];exact⟨x,List.mem_of_getElem? Hx.out,by rw[Hq.out];simp⟩
     exact⟨ret_bool (by rw[Hfin.out,hno];rfl),hRw.trans (hb9.mono hRw.size)⟩
    ·have Hnx:=Lhd (mem_take_succ Hx.out Hall.out Hq.out)
     go_wp2_with (go_at_call 41;refine Hc.out.mono ?_;rintro y w9 ⟨rfl,hb9⟩)
     go_roundw
     case rel=>exact⟨k+1,by omega,by go_num,Hnx.out,hB.trans (hb9.mono hB.size)⟩
     case measure=>simp[intOf];omega
  ·have hki:decide ((k:Int)<1)=false:=by have hm:=Hm.out;rw[decide_eq_false_iff_not];omega
   go_wp2
   go_ret
   have h1:=Hall.out
   rw[List.take_of_length_le (by rw[Ha.out];omega)] at h1
   have hyes:args.all (builtE d)=true:=by rw[List.all_eq_true];exact h1
   exact⟨ret_bool (by rw[Hfin.out,hyes];rfl),hRw⟩
theorem rbuiltK_19  (n:Int) (s name src:ByteArray) (A:Option Addr) (m c:Nat) (args:List Ex) (w:World) (F:Nat→Prop) (d:Nat) (ih:RBuilts F d) (hl:ExsAt F d w A m c args) :
  Calls Tryz.prog 41 #[.agg #[.int .i64 19,.int .i64 n,.string s,.string name,.string src,.slice A m c]] w fun x w'=>x=.returned (.bool (headR 19 n s name src args.length&&args.all (builtE d)))∧Below w.heap.size w w':=by
 have ha:=LsAt.len hl
 cases t0:decide (n=0)
 rotate_left
 cases t1:noS s
 rotate_left
 cases t2:noS name
 rotate_left
 cases t3:noS src
 rotate_left
 cases t4:decide (m=1)
 rotate_left
 exact rbuilt_19_5 n s name src A m c args w F d ih hl ha t0 t1 t2 t3 t4
 all_goals
  generalize hfin:headR 19 n s name src args.length=fin
  rw[ha,headR_19 ] at hfin
  simp[*] at hfin
  subst hfin
  clear hl ha ih
  first|(obtain⟨t0b,t0c⟩:=z_yes t0;clear t0)|(obtain⟨t0b,t0c⟩:=z_no t0;clear t0)|skip
  first|replace t1:=str_empty t1|(have q:=str_neq t1;clear t1;obtain⟨t1,t1b,t1c⟩:=q)|skip
  first|replace t2:=str_empty t2|(have q:=str_neq t2;clear t2;obtain⟨t2,t2b,t2c⟩:=q)|skip
  first|replace t3:=str_empty t3|(have q:=str_neq t3;clear t3;obtain⟨t3,t3b,t3c⟩:=q)|skip
  first|replace t4:=l1_no t4|skip
  obtain⟨w2,Hw2⟩:∃ w2,Hid (w2=(w.alloc (.cells #[.int .i64 19,.int .i64 n,.string s,.string name,.string src,.slice A m c] 60)).alloc (.cells #[.int .i64 19,.int .i64 0,.string { data:=#[] },.string { data:=#[] },.string { data:=#[] },.slice none 0 0] 60)):=⟨_,rfl⟩
  have hR:Below w.heap.size w w2:=by rw[Hw2.out];exact((Below.refl _ _).alloc (Nat.le_refl _) _).alloc (by simp) _
  have he2:IsBlk w2 w.heap.size 60 #[.int .i64 19,.int .i64 n,.string s,.string name,.string src,.slice A m c]:=by rw[Hw2.out];exact(IsBlk.laid _ _ _).alloc _
  have hw2:IsBlk w2 (w.heap.size+1) 60 #[.int .i64 19,.int .i64 0,.string { data:=#[] },.string { data:=#[] },.string { data:=#[] },.slice none 0 0]:=by rw[Hw2.out];exact laid_at (by simp) _ _
  obtain⟨x0,x1,x2,x3,x4,x5,xl⟩:=exBox he2
  obtain⟨y0,y1,y2,y3,y4,y5,hlw⟩:=exBox hw2
  have hfz:=hw2.frozen
  have hA5:=x5
  clear he2 hw2
  go_enter Tryz.func41,Tryz.ntmps41
  go_upto_region 2 with (fail)
  rw[← Hw2.out]
  go_wp2_with (first|fail)
  all_goals
   go_ret
   exact⟨rfl,by repeat (first|exact hR|refine Below.setCell ?_ (by simp) _)⟩
theorem rbuilt_20_5  (n:Int) (s name src:ByteArray) (A:Option Addr) (m c:Nat) (args:List Ex) (w:World) (F:Nat→Prop) (d:Nat) (ih:RBuilts F d) (hl:ExsAt F d w A m c args) (ha:args.length=m) (t0:decide (n=0)=true) (t1:noS s=true) (t2:noS name=true) (t3:noS src=true) (t4:decide (m=1)=true) :
  Calls Tryz.prog 41 #[.agg #[.int .i64 20,.int .i64 n,.string s,.string name,.string src,.slice A m c]] w fun x w'=>x=.returned (.bool (headR 20 n s name src args.length&&args.all (builtE d)))∧Below w.heap.size w w':=by
 have hfin:headR 20 n s name src args.length=true:=by
  rw[ha,headR_20 ]
  simp[t0,t1,t2,t3,t4]
 have Hfin:=Lhd hfin
 clear hfin
 have t0b:(n==0)=true:=by simpa using t0
 have t0c:(n !=0)=false:=by simpa using t0
 clear t0
 replace t1:=str_empty t1
 replace t2:=str_empty t2
 replace t3:=str_empty t3
 have t4b:m=1:=by simpa using t4
 have hmb:m≤1000:=by omega
 have Hm:=Lhd t4b
 have t4c:((m:Int) !=1)=false:=by simp;omega
 clear t4b t4
 obtain⟨w2,Hw2⟩:∃ w2,Hid (w2=(w.alloc (.cells #[.int .i64 20,.int .i64 n,.string s,.string name,.string src,.slice A m c] 60)).alloc (.cells #[.int .i64 20,.int .i64 0,.string { data:=#[] },.string { data:=#[] },.string { data:=#[] },.slice none 0 0] 60)):=⟨_,rfl⟩
 have hR:Below w.heap.size w w2:=by rw[Hw2.out];exact((Below.refl _ _).alloc (Nat.le_refl _) _).alloc (by simp) _
 have he2:IsBlk w2 w.heap.size 60 #[.int .i64 20,.int .i64 n,.string s,.string name,.string src,.slice A m c]:=by rw[Hw2.out];exact(IsBlk.laid _ _ _).alloc _
 have hw2:IsBlk w2 (w.heap.size+1) 60 #[.int .i64 20,.int .i64 0,.string { data:=#[] },.string { data:=#[] },.string { data:=#[] },.slice none 0 0]:=by rw[Hw2.out];exact laid_at (by simp) _ _
 obtain⟨x0,x1,x2,x3,x4,x5,xl⟩:=exBox he2
 obtain⟨y0,y1,y2,y3,y4,y5,hlw⟩:=exBox hw2
 have hfz:=hw2.frozen
 have hA5:=x5
 clear he2 hw2
 have Hl:=Lhd (fun W (hW:Below w.heap.size w W)=>ExsAt.below hl hW)
 have Ha:=Lhd ha
 clear ha hl
 go_enter Tryz.func41,Tryz.ntmps41
 go_upto_region 2 with (fail)
 rw[← Hw2.out]
 go_wp2_with (first|fail)
 obtain⟨g5,gl⟩:w2.cell? ⟨w.heap.size,5,none⟩=some (.slice A m c)∧w.heap.size<w2.heap.size:=⟨hA5,by omega⟩
 have Hg:=Lhd (fun W (hW:Below w2.heap.size w2 W)=>(hW.cell (p:=⟨w.heap.size,5,none⟩) gl).trans g5)
 clear g5 hA5 x0 x1 x2 x3 x4 x5 y0 y1 y2 y3 y4 y5
 go_loopw [5] (fun i wr=>∃ k:Nat,k≤m∧i=.int .i64 k∧(∀ y∈args.take k,builtE d y=true)∧Below w2.heap.size w2 wr) (fun i _=>m-(intOf i).toNat)
 case atStart=>exact⟨0,Nat.zero_le _,rfl,by simp,Below.refl _ _⟩
 case round =>
  obtain⟨k,hk,rfl,hall,hB⟩:=hrel
  have Hall:=Lhd hall
  clear hall
  have g5:=Hg.out wr hB
  have glr:=Nat.lt_of_lt_of_le gl hB.size
  have hRw:=hR.trans (hB.mono hR.size)
  by_cases hlt:k<m
  ·have hki:decide ((k:Int)<1)=true:=by have hm:=Hm.out;rw[decide_eq_true_iff];omega
   cases d with
   | zero =>
    obtain⟨b,o,r,e,hA,hbl,_,he,hl,hp,hc⟩:=LsAt.get (Hl.out wr hRw) hlt
    exact hp.elim
   | succ d =>
    obtain⟨b,o,x,A2,m2,c2,rfl,hbl,hx,hc0,hc1,hc2,hc3,hc4,hc5,hp,_⟩:=ExsAt.get (Hl.out wr hRw) hlt
    have Hx:=Lhd hx
    clear hx
    obtain⟨q,Hq⟩:∃ q,Hid (builtE (d+1) x=q):=⟨_,rfl⟩
    have hcall:=ih x _ wr hp
    rw[Hq.out] at hcall
    have Hc:=Lhd hcall
    clear hcall
    cases q
    ·go_wp2_with (go_at_call 41;refine Hc.out.mono ?_;rintro y w9 ⟨rfl,hb9⟩)
     go_ret
     have hno:args.all (builtE (d+1))=false:=by rw[List.all_eq_false];exact⟨x,List.mem_of_getElem? Hx.out,by rw[Hq.out];simp⟩
     exact⟨ret_bool (by rw[Hfin.out,hno];rfl),hRw.trans (hb9.mono hRw.size)⟩
    ·have Hnx:=Lhd (mem_take_succ Hx.out Hall.out Hq.out)
     go_wp2_with (go_at_call 41;refine Hc.out.mono ?_;rintro y w9 ⟨rfl,hb9⟩)
     go_roundw
     case rel=>exact⟨k+1,by omega,by go_num,Hnx.out,hB.trans (hb9.mono hB.size)⟩
     case measure=>simp[intOf];omega
  ·have hki:decide ((k:Int)<1)=false:=by have hm:=Hm.out;rw[decide_eq_false_iff_not];omega
   go_wp2
   go_ret
   have h1:=Hall.out
   rw[List.take_of_length_le (by rw[Ha.out];omega)] at h1
   have hyes:args.all (builtE d)=true:=by rw[List.all_eq_true];exact h1
   exact⟨ret_bool (by rw[Hfin.out,hyes];rfl),hRw⟩
theorem rbuiltK_20  (n:Int) (s name src:ByteArray) (A:Option Addr) (m c:Nat) (args:List Ex) (w:World) (F:Nat→Prop) (d:Nat) (ih:RBuilts F d) (hl:ExsAt F d w A m c args) :
  Calls Tryz.prog 41 #[.agg #[.int .i64 20,.int .i64 n,.string s,.string name,.string src,.slice A m c]] w fun x w'=>x=.returned (.bool (headR 20 n s name src args.length&&args.all (builtE d)))∧Below w.heap.size w w':=by
 have ha:=LsAt.len hl
 cases t0:decide (n=0)
 rotate_left
 cases t1:noS s
 rotate_left
 cases t2:noS name
 rotate_left
 cases t3:noS src
 rotate_left
 cases t4:decide (m=1)
 rotate_left
 exact rbuilt_20_5 n s name src A m c args w F d ih hl ha t0 t1 t2 t3 t4
 all_goals
  generalize hfin:headR 20 n s name src args.length=fin
  rw[ha,headR_20 ] at hfin
  simp[*] at hfin
  subst hfin
  clear hl ha ih
  first|(obtain⟨t0b,t0c⟩:=z_yes t0;clear t0)|(obtain⟨t0b,t0c⟩:=z_no t0;clear t0)|skip
  first|replace t1:=str_empty t1|(have q:=str_neq t1;clear t1;obtain⟨t1,t1b,t1c⟩:=q)|skip
  first|replace t2:=str_empty t2|(have q:=str_neq t2;clear t2;obtain⟨t2,t2b,t2c⟩:=q)|skip
  first|replace t3:=str_empty t3|(have q:=str_neq t3;clear t3;obtain⟨t3,t3b,t3c⟩:=q)|skip
  first|replace t4:=l1_no t4|skip
  obtain⟨w2,Hw2⟩:∃ w2,Hid (w2=(w.alloc (.cells #[.int .i64 20,.int .i64 n,.string s,.string name,.string src,.slice A m c] 60)).alloc (.cells #[.int .i64 20,.int .i64 0,.string { data:=#[] },.string { data:=#[] },.string { data:=#[] },.slice none 0 0] 60)):=⟨_,rfl⟩
  have hR:Below w.heap.size w w2:=by rw[Hw2.out];exact((Below.refl _ _).alloc (Nat.le_refl _) _).alloc (by simp) _
  have he2:IsBlk w2 w.heap.size 60 #[.int .i64 20,.int .i64 n,.string s,.string name,.string src,.slice A m c]:=by rw[Hw2.out];exact(IsBlk.laid _ _ _).alloc _
  have hw2:IsBlk w2 (w.heap.size+1) 60 #[.int .i64 20,.int .i64 0,.string { data:=#[] },.string { data:=#[] },.string { data:=#[] },.slice none 0 0]:=by rw[Hw2.out];exact laid_at (by simp) _ _
  obtain⟨x0,x1,x2,x3,x4,x5,xl⟩:=exBox he2
  obtain⟨y0,y1,y2,y3,y4,y5,hlw⟩:=exBox hw2
  have hfz:=hw2.frozen
  have hA5:=x5
  clear he2 hw2
  go_enter Tryz.func41,Tryz.ntmps41
  go_upto_region 2 with (fail)
  rw[← Hw2.out]
  go_wp2_with (first|fail)
  all_goals
   go_ret
   exact⟨rfl,by repeat (first|exact hR|refine Below.setCell ?_ (by simp) _)⟩
theorem headR_none {n:Int} {s name src:ByteArray} {l:Nat} (op:Int) (h:op<1∨24<op):headR op n s name src l=false:=by
 have ha:arityB op = -1:=by unfold arityB;repeat (first|rw[if_pos (by omega)]|rw[if_neg (by omega)])
 rw[headR,ha,decide_eq_false (by omega)]
 rfl
theorem rbuilt_none (op n:Int) (s name src:ByteArray) (A:Option Addr) (m c:Nat) (w:World) (h:op<1∨24<op) :
  Calls Tryz.prog 41 #[.agg #[.int .i64 op,.int .i64 n,.string s,.string name,.string src,.slice A m c]] w fun x w'=>x=.returned (.bool false)∧Below w.heap.size w w':=by
 have e1:(op==1)=false:=by simp;omega
 have e2:(op==2)=false:=by simp;omega
 have e3:(op==3)=false:=by simp;omega
 have e4:(op==4)=false:=by simp;omega
 have e5:(op==5)=false:=by simp;omega
 have e19:(op==19)=false:=by simp;omega
 have e20:(op==20)=false:=by simp;omega
 obtain⟨w2,Hw2⟩:∃ w2,Hid (w2=(w.alloc (.cells #[.int .i64 op,.int .i64 n,.string s,.string name,.string src,.slice A m c] 60)).alloc (.cells #[.int .i64 op,.int .i64 0,.string { data:=#[] },.string { data:=#[] },.string { data:=#[] },.slice none 0 0] 60)):=⟨_,rfl⟩
 have hR:Below w.heap.size w w2:=by rw[Hw2.out];exact((Below.refl _ _).alloc (Nat.le_refl _) _).alloc (by simp) _
 have he2:IsBlk w2 w.heap.size 60 #[.int .i64 op,.int .i64 n,.string s,.string name,.string src,.slice A m c]:=by rw[Hw2.out];exact(IsBlk.laid _ _ _).alloc _
 obtain⟨x0,x1,x2,x3,x4,x5,xl⟩:=exBox he2
 clear he2
 rcases h with h|h
 ·have f1:decide ((21:Int)≤op)=false:=by simp;omega
  have f4:decide ((6:Int)≤op)=false:=by simp;omega
  go_enter Tryz.func41,Tryz.ntmps41
  go_upto_region 2 with (fail)
  rw[← Hw2.out]
  go_wp2
  go_ret
  exact⟨rfl,hR⟩
 ·have f1:decide ((21:Int)≤op)=true:=by simp;omega
  have f2:decide (op≤(24:Int))=false:=by simp;omega
  have f4:decide ((6:Int)≤op)=true:=by simp;omega
  have f5:decide (op≤(18:Int))=false:=by simp;omega
  go_enter Tryz.func41,Tryz.ntmps41
  go_upto_region 2 with (fail)
  rw[← Hw2.out]
  go_wp2
  go_ret
  exact⟨rfl,hR⟩
theorem rbuilt_any (F:Nat→Prop) (d:Nat):RBuilts F d:=by
 induction d with
 | zero=>intro e row w h;exact h.elim
 | succ d ih =>
  intro e row w h
  obtain⟨ho,hn,hs,hnm,hsr,A,m,c,rfl,hl⟩:=h.open_
  have hfin:builtE (d+1) e=(headR e.op e.n e.s e.name e.src e.args.length&&e.args.all (builtE d)):=rfl
  rw[hfin]
  by_cases h1:e.op=1
  ·rw[h1];exact rbuiltK_1 e.n e.s e.name e.src A m c e.args w F d hl
  by_cases h2:e.op=2
  ·rw[h2];exact rbuiltK_2 e.n e.s e.name e.src A m c e.args w F d hl
  by_cases h3:e.op=3
  ·rw[h3];exact rbuiltK_3 e.n e.s e.name e.src A m c e.args w F d hl
  by_cases h4:e.op=4
  ·rw[h4];exact rbuiltK_4 e.n e.s e.name e.src A m c e.args w F d hl hnm
  by_cases h5:e.op=5
  ·rw[h5];exact rbuiltK_5 e.n e.s e.name e.src A m c e.args w F d hl hnm hs
  by_cases h21:e.op=21
  ·rw[h21];exact rbuiltK_21 e.n e.s e.name e.src A m c e.args w F d ih hl hnm hsr
  by_cases h19:e.op=19
  ·rw[h19];exact rbuiltK_19 e.n e.s e.name e.src A m c e.args w F d ih hl
  by_cases h20:e.op=20
  ·rw[h20];exact rbuiltK_20 e.n e.s e.name e.src A m c e.args w F d ih hl
  by_cases hr:22≤e.op∧e.op≤24
  ·exact rbuiltK_r e.op hr.1 hr.2 e.n e.s e.name e.src A m c e.args w F d ih hl hnm hsr
  by_cases hr:6≤e.op∧e.op≤18
  ·exact rbuiltK_t e.op hr.1 hr.2 e.n e.s e.name e.src A m c e.args w F d ih hl
  rw[headR_none e.op (by omega),Bool.false_and]
  exact rbuilt_none e.op e.n e.s e.name e.src A m c w (by omega)
end Go.Proofs.YtgbgiknfejpcoaaGreat
namespace Go.Afx
open Go.RowKit
def startsAt (n:Nat):Code→Bool
 | .region i _ _=>i==n
 | .seq a _=>startsAt n a
 | .block _ c=>startsAt n c
 | .scope c=>startsAt n c
 | .loop c=>startsAt n c
 | _=>false
def findLoop (n:Nat):Code→Option Code
 | .loop c=>if startsAt n c then some c else findLoop n c
 | .seq a b=>match findLoop n a with
  | some c=>some c
  | none=>findLoop n b
 | .block _ c=>findLoop n c
 | .scope c=>findLoop n c
 | .cond _ a b=>match findLoop n a with
  | some c=>some c
  | none=>findLoop n b
 | _=>none
def findRegion (n:Nat):Code→Option Code
 | .region i ops d=>if i==n then some (.region i ops d) else none
 | .loop c=>findRegion n c
 | .seq a b=>match findRegion n a with
  | some c=>some c
  | none=>findRegion n b
 | .block _ c=>findRegion n c
 | .scope c=>findRegion n c
 | .cond _ a b=>match findRegion n a with
  | some c=>some c
  | none=>findRegion n b
 | _=>none
def noPanic (Q:Exit→Act→World→Prop):Exit→Act→World→Prop
 | .panic _,_,_=>False
 | e,a,w=>Q e a w
section
variable {P:Program} {md:Region.Mode} {ops:Array Oper} {Q:Exit→Act→World→Prop} {S:World→Prop}
end
end Go.Afx
namespace Go.Afx
open Go.RowKit
def digs (n:Nat):List UInt8:=if _h:n=0 then [] else digs (n / 10)++[UInt8.ofNat (48+n % 10)]
termination_by n
decreasing_by omega
def decS (n:Int):List UInt8:=if n=0 then [48] else digs n.toNat
def dbl (l:List UInt8):List UInt8:=l.flatMap fun c=>if c=39 then [39,39] else [c]
def quoteS (s:ByteArray):List UInt8:=[39]++dbl s.data.toList++[39]
def sgnT:List (List UInt8):=[[43],[45],[42],[47],[37],[61],[33,61],[60],[60,61],[62,61],[62],[97,110,100],[111,114],[110,111,116,32],[45],[99,111,117,110,116],[115,117,109],[109,105,110],[109,97,120]]
def lvlT:List Int:=[5,5,6,6,6,4,4,4,4,4,4,2,1,3,7,8,8,8,8]
def sgnL (op:Int):List UInt8:=if op<6 then [] else sgnT.getD (op-6).toNat []
def lvlZ (op:Int):Int:=if op<6 then 8 else lvlT.getD (op-6).toNat 8
def opnd (least op:Int) (t:List UInt8):List UInt8:=if lvlZ op<least then [40]++t++[41] else t
def whereT (op n:Int) (t:List UInt8):List UInt8:=if op=3∧n=1 then [] else [32,119,104,101,114,101,32]++t
def rowsT (name src:ByteArray) (op n:Int) (t:List UInt8):List UInt8:=name.data.toList++[32,105,110,32]++src.data.toList++whereT op n t
def trueL:List UInt8:=[116,114,117,101]
def falseL:List UInt8:=[102,97,108,115,101]
def txtE:Nat→Ex→List UInt8
 | 0,_=>[]
 | d+1,e =>
  if e.op=1 then decS e.n
  else if e.op=2 then quoteS e.s
  else if e.op=3 then (if e.n=1 then trueL else falseL)
  else if e.op=4 then e.name.data.toList
  else if e.op=5 then e.name.data.toList++[46]++e.s.data.toList
  else match e.args with
   | []=>[]
   | a::r =>
    if e.op=19∨e.op=20 then sgnL e.op++opnd (lvlZ e.op) a.op (txtE d a)
    else if 21≤e.op then sgnL e.op++[40]++rowsT e.name e.src a.op a.n (txtE d a)++(if e.op=21 then [] else [58,32]++(match r with|[]=>[]|b::_=>txtE d b))++[41]
    else opnd (lvlZ e.op+if lvlZ e.op=4 then 1 else 0) a.op (txtE d a)++([32]++sgnL e.op++[32])++(match r with|[]=>[]|b::_=>opnd (lvlZ e.op+1) b.op (txtE d b))
def nlE:Nat→Ex→Bool
 | 0,_=>false
 | d+1,e=>(decide (e.op=2)&&e.s.data.toList.any (·==10))||e.args.any (nlE d)
end Go.Afx
namespace Go.Proofs.YtgbgiknfejpcoaaGreat
open Go.RowKit Go.Afx
def catL (xs:List ByteArray):List UInt8:=(xs.map (·.data.toList)).flatten
end Go.Proofs.YtgbgiknfejpcoaaGreat
namespace Go.Afx
open Go.RowKit
def lowD (n:Nat):List Nat:=if _h:n=0 then [] else (n % 10)::lowD (n / 10)
termination_by n
decreasing_by omega
theorem lowD_zero:lowD 0=[]:=by rw[lowD];rfl
theorem lowD_pos {n:Nat} (h:0<n):lowD n=(n % 10)::lowD (n / 10):=by
 rw[lowD,dif_neg (by omega)]
theorem lowD_len:∀ (k n:Nat),n<10 ^ k→(lowD n).length≤k:=by
  intro k
  induction k with
  | zero => intro n h;obtain rfl:n=0:=by simpa using h
            rw[lowD_zero];exact Nat.le_refl _
  | succ k ih =>
    intro n h
    rcases Nat.eq_zero_or_pos n with rfl|hp
    · rw[lowD_zero];exact Nat.zero_le _
    · rw[lowD_pos hp,List.length_cons]
      have:=ih (n / 10) (by rw[Nat.pow_succ] at h;omega)
      omega
theorem lowD_last:∀ (k n:Nat),n<10 ^ k→0<n→∃ x,(lowD n).getLast?=some x∧x≠0:=by
 intro k
 induction k with
 | zero=>intro n h h0;simp at h;omega
 | succ k ih =>
  intro n h h0
  rw[lowD_pos h0]
  rcases Nat.eq_zero_or_pos (n / 10) with hz|hp
  ·rw[hz,lowD_zero]
   exact⟨n % 10,rfl,by omega⟩
  ·obtain⟨x,hx,h1⟩:=ih (n / 10) (by rw[Nat.pow_succ] at h;omega) hp
   refine⟨x,?_,h1⟩
   rw[List.getLast?_cons,hx]
   rfl
theorem lowD_digit:∀ (k n:Nat),n<10 ^ k→∀ x∈lowD n,x<10:=by
  intro k
  induction k with
  | zero => intro n h;obtain rfl:n=0:=by simpa using h
            rw[lowD_zero];simp
  | succ k ih =>
    intro n h x hx
    rcases Nat.eq_zero_or_pos n with rfl|hp
    · rw[lowD_zero] at hx;simp at hx
    · rw[lowD_pos hp,List.mem_cons] at hx
      rcases hx with rfl|hx
      · omega
      · exact ih (n / 10) (by rw[Nat.pow_succ] at h;omega) x hx
end Go.Afx
namespace Go.Proofs.YtgbgiknfejpcoaaGreat
open Go.RowKit Go.Afx
theorem trim_any (A:Option Addr) (n c:Nat) (w:World) (hn:n≤1000) (h:n=0∨∃ b x,A=some ⟨b,0,none⟩∧0<n∧w.cell? ⟨b,n-1,none⟩=some (.int .i64 x)∧x≠0∧b<w.heap.size) :
  Calls Tryz.prog 155 #[.slice A n c] w fun e w'=>e=.returned (.slice A n c)∧w=w':=by
 rcases h with rfl|⟨b,x,rfl,h0,hc,hx,hb⟩
 ·go_enter Tryz.func155,Tryz.ntmps155
  go_wp2
  refine wp_loop_rounds 1 ?_
  rw[rounds_succ]
  go_wp2
  go_ret
  exact⟨rfl,rfl⟩
 ·have q:(x==0)=false:=by simpa using hx
  have hd:decide ((0:Int)<(n:Int))=true:=by simp;omega
  have e1:((n:Int)-1).toNat=n-1:=by omega
  have i1:(0:Int)≤(n:Int)-1:=by omega
  have i2:(n:Int)-1<(n:Int):=by omega
  go_enter Tryz.func155,Tryz.ntmps155
  go_wp2
  refine wp_loop_rounds 1 ?_
  rw[rounds_succ]
  go_wp2
  go_ret
  exact⟨rfl,rfl⟩
theorem refSign_any (A:Option Addr) (n c:Nat) (w:World) (hn:n≤1000) (h:n=0∨∃ b x,A=some ⟨b,0,none⟩∧0<n∧w.cell? ⟨b,n-1,none⟩=some (.int .i64 x)∧x≠0∧b<w.heap.size) :
  Calls Tryz.prog 103 #[.bool false,.slice A n c] w fun e w'=>e=.returned (.agg #[.bool false,.slice A n c])∧Below w.heap.size w w':=by
 obtain⟨w1,Hw1⟩:∃ w1,Hid (w1=w.alloc (.cells #[.bool false,.slice none 0 0] 186)):=⟨_,rfl⟩
 have hb1:Below w.heap.size w w1:=by rw[Hw1.out];exact(Below.refl _ _).alloc (Nat.le_refl _) _
 have Ht:=Lhd (trim_any A n c w1 hn (by
  rcases h with rfl|⟨b,x,hA,h0,hc,hx,hb⟩
  ·exact .inl rfl
  ·exact .inr ⟨b,x,hA,h0,(hb1.cell (p:=⟨b,n-1,none⟩) hb).trans hc,hx,Nat.lt_of_lt_of_le hb hb1.size⟩))
 rw[Hw1.out] at Ht
 clear h hb1 Hw1 w1
 go_enter Tryz.func103,Tryz.ntmps103
 go_wp2_with (go_at_call 155;refine Ht.out.mono ?_;rintro e w2 ⟨rfl,rfl⟩)
 refine bodyPost_ret (v:=.agg #[.bool false,.slice A n c]) (by simp[results,Tryz.results103,go_sem]) rfl ⟨rfl,?_⟩
 exact(Below.refl _ _).alloc (Nat.le_refl _) _
end Go.Proofs.YtgbgiknfejpcoaaGreat
