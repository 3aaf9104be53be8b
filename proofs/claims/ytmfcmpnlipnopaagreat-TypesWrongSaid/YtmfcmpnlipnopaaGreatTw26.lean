/- Parts of this proof, one behind the other: RefE1, RefE2. -/
import Derived.Test.YtmfcmpnlipnopaaGreatTw25
set_option maxRecDepth 1000000
set_option maxHeartbeats 40000000
namespace Go.Proofs.YtmfcmpnlipnopaaGreat
open Go.RowKit Go.Afx
theorem rbuilt_1_5  (n:Int) (s name src:ByteArray) (A:Option Addr) (m c:Nat) (args:List Ex) (w:World) (d:Nat) (ha:args.length=m) (t0:decide (0≤n)=true) (t1:noS s=true) (t2:noS name=true) (t3:noS src=true) (t4:decide (m=0)=true) :
  Calls Tryz.prog 52 #[.agg #[.int .i64 1,.int .i64 n,.string s,.string name,.string src,.slice A m c]] w fun x w'=>x=.returned (.bool (headR 1 n s name src args.length&&args.all (builtE d)))∧Below w.heap.size w w':=by
 have hfin:headR 1 n s name src args.length=true:=by
  rw[ha,headR_1 ]
  simp[t0,t1,t2,t3,t4]
 have Hfin:=Lhd hfin
 clear hfin
 have t0b:max n 0=n:=by simp at t0;omega
 clear t0
 replace t1:=str_empty t1
 replace t2:=str_empty t2
 replace t3:=str_empty t3
 have t4b:m=0:=by simpa using t4
 have hmb:m≤1000:=by omega
 have Hm:=Lhd t4b
 have t4c:((m:Int) !=0)=false:=by simp;omega
 clear t4b t4
 obtain⟨w2,Hw2⟩:∃ w2,Hid (w2=(w.alloc (.cells #[.int .i64 1,.int .i64 n,.string s,.string name,.string src,.slice A m c] 89)).alloc (.cells #[.int .i64 1,.int .i64 0,.string { data:=#[] },.string { data:=#[] },.string { data:=#[] },.slice none 0 0] 89)):=⟨_,rfl⟩
 have hR:Below w.heap.size w w2:=by rw[Hw2.out];exact((Below.refl _ _).alloc (Nat.le_refl _) _).alloc (by simp) _
 have he2:IsBlk w2 w.heap.size 89 #[.int .i64 1,.int .i64 n,.string s,.string name,.string src,.slice A m c]:=by rw[Hw2.out];exact(IsBlk.laid _ _ _).alloc _
 have hw2:IsBlk w2 (w.heap.size+1) 89 #[.int .i64 1,.int .i64 0,.string { data:=#[] },.string { data:=#[] },.string { data:=#[] },.slice none 0 0]:=by rw[Hw2.out];exact laid_at (by simp) _ _
 obtain⟨x0,x1,x2,x3,x4,x5,xl⟩:=exBox he2
 obtain⟨y0,y1,y2,y3,y4,y5,hlw⟩:=exBox hw2
 have hfz:=hw2.frozen
 have hA5:=x5
 clear he2 hw2
 have Ha:=Lhd ha
 clear ha
 go_enter Tryz.func52,Tryz.ntmps52
 go_upto_region 2 with (fail)
 rw[← Hw2.out]
 go_wp2_with (first|fail)
 go_loop [5] (fun i=>i=.int .i64 0) (fun _=>0)
 case atStart=>rfl
 case round =>
  obtain rfl:=hrel
  go_wp2
  go_ret
  have h0:args=[]:=List.eq_nil_of_length_eq_zero (by rw[Ha.out];have:=Hm.out;omega)
  subst h0
  exact⟨ret_bool (by rw[Hfin.out];simp),by repeat (first|exact hR|refine Below.setCell ?_ (by simp) _)⟩
theorem rbuiltK_1  (n:Int) (s name src:ByteArray) (A:Option Addr) (m c:Nat) (args:List Ex) (w:World) (F:Nat→Prop) (d:Nat) (hl:ExsAt F d w A m c args) :
  Calls Tryz.prog 52 #[.agg #[.int .i64 1,.int .i64 n,.string s,.string name,.string src,.slice A m c]] w fun x w'=>x=.returned (.bool (headR 1 n s name src args.length&&args.all (builtE d)))∧Below w.heap.size w w':=by
 have ha:=LsAt.len hl
 cases t0:decide (0≤n)
 rotate_left
 cases t1:noS s
 rotate_left
 cases t2:noS name
 rotate_left
 cases t3:noS src
 rotate_left
 cases t4:decide (m=0)
 rotate_left
 exact rbuilt_1_5 n s name src A m c args w d ha t0 t1 t2 t3 t4
 all_goals
  generalize hfin:headR 1 n s name src args.length=fin
  rw[ha,headR_1 ] at hfin
  simp[*] at hfin
  subst hfin
  clear hl ha
  first|replace t0:=n0_yes t0|(obtain⟨t0b,t0c⟩:=n0_no t0;clear t0)|skip
  first|replace t1:=str_empty t1|(have q:=str_neq t1;clear t1;obtain⟨t1,t1b,t1c⟩:=q)|skip
  first|replace t2:=str_empty t2|(have q:=str_neq t2;clear t2;obtain⟨t2,t2b,t2c⟩:=q)|skip
  first|replace t3:=str_empty t3|(have q:=str_neq t3;clear t3;obtain⟨t3,t3b,t3c⟩:=q)|skip
  first|replace t4:=l0_no t4|skip
  obtain⟨w2,Hw2⟩:∃ w2,Hid (w2=(w.alloc (.cells #[.int .i64 1,.int .i64 n,.string s,.string name,.string src,.slice A m c] 89)).alloc (.cells #[.int .i64 1,.int .i64 0,.string { data:=#[] },.string { data:=#[] },.string { data:=#[] },.slice none 0 0] 89)):=⟨_,rfl⟩
  have hR:Below w.heap.size w w2:=by rw[Hw2.out];exact((Below.refl _ _).alloc (Nat.le_refl _) _).alloc (by simp) _
  have he2:IsBlk w2 w.heap.size 89 #[.int .i64 1,.int .i64 n,.string s,.string name,.string src,.slice A m c]:=by rw[Hw2.out];exact(IsBlk.laid _ _ _).alloc _
  have hw2:IsBlk w2 (w.heap.size+1) 89 #[.int .i64 1,.int .i64 0,.string { data:=#[] },.string { data:=#[] },.string { data:=#[] },.slice none 0 0]:=by rw[Hw2.out];exact laid_at (by simp) _ _
  obtain⟨x0,x1,x2,x3,x4,x5,xl⟩:=exBox he2
  obtain⟨y0,y1,y2,y3,y4,y5,hlw⟩:=exBox hw2
  have hfz:=hw2.frozen
  have hA5:=x5
  clear he2 hw2
  go_enter Tryz.func52,Tryz.ntmps52
  go_upto_region 2 with (fail)
  rw[← Hw2.out]
  go_wp2_with (first|fail)
  all_goals
   go_ret
   exact⟨rfl,by repeat (first|exact hR|refine Below.setCell ?_ (by simp) _)⟩
theorem rbuilt_2_5  (n:Int) (s name src:ByteArray) (A:Option Addr) (m c:Nat) (args:List Ex) (w:World) (d:Nat) (ha:args.length=m) (t0:decide (s.size≤200)=true) (t1:decide (n=0)=true) (t2:noS name=true) (t3:noS src=true) (t4:decide (m=0)=true) :
  Calls Tryz.prog 52 #[.agg #[.int .i64 2,.int .i64 n,.string s,.string name,.string src,.slice A m c]] w fun x w'=>x=.returned (.bool (headR 2 n s name src args.length&&args.all (builtE d)))∧Below w.heap.size w w':=by
 have hfin:headR 2 n s name src args.length=true:=by
  rw[ha,headR_2 ]
  simp[t0,t1,t2,t3,t4]
 have Hfin:=Lhd hfin
 clear hfin
 have t0b:decide ((200:Int)<(s.size:Int))=false:=by simp at t0 ⊢;omega
 clear t0
 have t1b:(n==0)=true:=by simpa using t1
 have t1c:(n !=0)=false:=by simpa using t1
 clear t1
 replace t2:=str_empty t2
 replace t3:=str_empty t3
 have t4b:m=0:=by simpa using t4
 have hmb:m≤1000:=by omega
 have Hm:=Lhd t4b
 have t4c:((m:Int) !=0)=false:=by simp;omega
 clear t4b t4
 obtain⟨w2,Hw2⟩:∃ w2,Hid (w2=(w.alloc (.cells #[.int .i64 2,.int .i64 n,.string s,.string name,.string src,.slice A m c] 89)).alloc (.cells #[.int .i64 2,.int .i64 0,.string { data:=#[] },.string { data:=#[] },.string { data:=#[] },.slice none 0 0] 89)):=⟨_,rfl⟩
 have hR:Below w.heap.size w w2:=by rw[Hw2.out];exact((Below.refl _ _).alloc (Nat.le_refl _) _).alloc (by simp) _
 have he2:IsBlk w2 w.heap.size 89 #[.int .i64 2,.int .i64 n,.string s,.string name,.string src,.slice A m c]:=by rw[Hw2.out];exact(IsBlk.laid _ _ _).alloc _
 have hw2:IsBlk w2 (w.heap.size+1) 89 #[.int .i64 2,.int .i64 0,.string { data:=#[] },.string { data:=#[] },.string { data:=#[] },.slice none 0 0]:=by rw[Hw2.out];exact laid_at (by simp) _ _
 obtain⟨x0,x1,x2,x3,x4,x5,xl⟩:=exBox he2
 obtain⟨y0,y1,y2,y3,y4,y5,hlw⟩:=exBox hw2
 have hfz:=hw2.frozen
 have hA5:=x5
 clear he2 hw2
 have Ha:=Lhd ha
 clear ha
 go_enter Tryz.func52,Tryz.ntmps52
 go_upto_region 2 with (fail)
 rw[← Hw2.out]
 go_wp2_with (first|fail)
 go_loop [5] (fun i=>i=.int .i64 0) (fun _=>0)
 case atStart=>rfl
 case round =>
  obtain rfl:=hrel
  go_wp2
  go_ret
  have h0:args=[]:=List.eq_nil_of_length_eq_zero (by rw[Ha.out];have:=Hm.out;omega)
  subst h0
  exact⟨ret_bool (by rw[Hfin.out];simp),by repeat (first|exact hR|refine Below.setCell ?_ (by simp) _)⟩
theorem rbuiltK_2  (n:Int) (s name src:ByteArray) (A:Option Addr) (m c:Nat) (args:List Ex) (w:World) (F:Nat→Prop) (d:Nat) (hl:ExsAt F d w A m c args) :
  Calls Tryz.prog 52 #[.agg #[.int .i64 2,.int .i64 n,.string s,.string name,.string src,.slice A m c]] w fun x w'=>x=.returned (.bool (headR 2 n s name src args.length&&args.all (builtE d)))∧Below w.heap.size w w':=by
 have ha:=LsAt.len hl
 cases t0:decide (s.size≤200)
 rotate_left
 cases t1:decide (n=0)
 rotate_left
 cases t2:noS name
 rotate_left
 cases t3:noS src
 rotate_left
 cases t4:decide (m=0)
 rotate_left
 exact rbuilt_2_5 n s name src A m c args w d ha t0 t1 t2 t3 t4
 all_goals
  generalize hfin:headR 2 n s name src args.length=fin
  rw[ha,headR_2 ] at hfin
  simp[*] at hfin
  subst hfin
  clear hl ha
  first|replace t0:=s2_yes t0|replace t0:=s2_no t0|skip
  first|(obtain⟨t1b,t1c⟩:=z_yes t1;clear t1)|(obtain⟨t1b,t1c⟩:=z_no t1;clear t1)|skip
  first|replace t2:=str_empty t2|(have q:=str_neq t2;clear t2;obtain⟨t2,t2b,t2c⟩:=q)|skip
  first|replace t3:=str_empty t3|(have q:=str_neq t3;clear t3;obtain⟨t3,t3b,t3c⟩:=q)|skip
  first|replace t4:=l0_no t4|skip
  obtain⟨w2,Hw2⟩:∃ w2,Hid (w2=(w.alloc (.cells #[.int .i64 2,.int .i64 n,.string s,.string name,.string src,.slice A m c] 89)).alloc (.cells #[.int .i64 2,.int .i64 0,.string { data:=#[] },.string { data:=#[] },.string { data:=#[] },.slice none 0 0] 89)):=⟨_,rfl⟩
  have hR:Below w.heap.size w w2:=by rw[Hw2.out];exact((Below.refl _ _).alloc (Nat.le_refl _) _).alloc (by simp) _
  have he2:IsBlk w2 w.heap.size 89 #[.int .i64 2,.int .i64 n,.string s,.string name,.string src,.slice A m c]:=by rw[Hw2.out];exact(IsBlk.laid _ _ _).alloc _
  have hw2:IsBlk w2 (w.heap.size+1) 89 #[.int .i64 2,.int .i64 0,.string { data:=#[] },.string { data:=#[] },.string { data:=#[] },.slice none 0 0]:=by rw[Hw2.out];exact laid_at (by simp) _ _
  obtain⟨x0,x1,x2,x3,x4,x5,xl⟩:=exBox he2
  obtain⟨y0,y1,y2,y3,y4,y5,hlw⟩:=exBox hw2
  have hfz:=hw2.frozen
  have hA5:=x5
  clear he2 hw2
  go_enter Tryz.func52,Tryz.ntmps52
  go_upto_region 2 with (fail)
  rw[← Hw2.out]
  go_wp2_with (first|fail)
  all_goals
   go_ret
   exact⟨rfl,by repeat (first|exact hR|refine Below.setCell ?_ (by simp) _)⟩
theorem rbuilt_3_5  (n:Int) (s name src:ByteArray) (A:Option Addr) (m c:Nat) (args:List Ex) (w:World) (d:Nat) (ha:args.length=m) (t0:(decide (n=0)||decide (n=1))=true) (t1:noS s=true) (t2:noS name=true) (t3:noS src=true) (t4:decide (m=0)=true) :
  Calls Tryz.prog 52 #[.agg #[.int .i64 3,.int .i64 n,.string s,.string name,.string src,.slice A m c]] w fun x w'=>x=.returned (.bool (headR 3 n s name src args.length&&args.all (builtE d)))∧Below w.heap.size w w':=by
 have hfin:headR 3 n s name src args.length=true:=by
  rw[ha,headR_3 ]
  simp[t0,t1,t2,t3,t4]
 have Hfin:=Lhd hfin
 clear hfin
 have t0b:max n 0=n:=by simp at t0;omega
 have t0c:min n 1=n:=by simp at t0;omega
 clear t0
 replace t1:=str_empty t1
 replace t2:=str_empty t2
 replace t3:=str_empty t3
 have t4b:m=0:=by simpa using t4
 have hmb:m≤1000:=by omega
 have Hm:=Lhd t4b
 have t4c:((m:Int) !=0)=false:=by simp;omega
 clear t4b t4
 obtain⟨w2,Hw2⟩:∃ w2,Hid (w2=(w.alloc (.cells #[.int .i64 3,.int .i64 n,.string s,.string name,.string src,.slice A m c] 89)).alloc (.cells #[.int .i64 3,.int .i64 0,.string { data:=#[] },.string { data:=#[] },.string { data:=#[] },.slice none 0 0] 89)):=⟨_,rfl⟩
 have hR:Below w.heap.size w w2:=by rw[Hw2.out];exact((Below.refl _ _).alloc (Nat.le_refl _) _).alloc (by simp) _
 have he2:IsBlk w2 w.heap.size 89 #[.int .i64 3,.int .i64 n,.string s,.string name,.string src,.slice A m c]:=by rw[Hw2.out];exact(IsBlk.laid _ _ _).alloc _
 have hw2:IsBlk w2 (w.heap.size+1) 89 #[.int .i64 3,.int .i64 0,.string { data:=#[] },.string { data:=#[] },.string { data:=#[] },.slice none 0 0]:=by rw[Hw2.out];exact laid_at (by simp) _ _
 obtain⟨x0,x1,x2,x3,x4,x5,xl⟩:=exBox he2
 obtain⟨y0,y1,y2,y3,y4,y5,hlw⟩:=exBox hw2
 have hfz:=hw2.frozen
 have hA5:=x5
 clear he2 hw2
 have Ha:=Lhd ha
 clear ha
 go_enter Tryz.func52,Tryz.ntmps52
 go_upto_region 2 with (fail)
 rw[← Hw2.out]
 go_wp2_with (first|fail)
 go_loop [5] (fun i=>i=.int .i64 0) (fun _=>0)
 case atStart=>rfl
 case round =>
  obtain rfl:=hrel
  go_wp2
  go_ret
  have h0:args=[]:=List.eq_nil_of_length_eq_zero (by rw[Ha.out];have:=Hm.out;omega)
  subst h0
  exact⟨ret_bool (by rw[Hfin.out];simp),by repeat (first|exact hR|refine Below.setCell ?_ (by simp) _)⟩
theorem rbuiltK_3  (n:Int) (s name src:ByteArray) (A:Option Addr) (m c:Nat) (args:List Ex) (w:World) (F:Nat→Prop) (d:Nat) (hl:ExsAt F d w A m c args) :
  Calls Tryz.prog 52 #[.agg #[.int .i64 3,.int .i64 n,.string s,.string name,.string src,.slice A m c]] w fun x w'=>x=.returned (.bool (headR 3 n s name src args.length&&args.all (builtE d)))∧Below w.heap.size w w':=by
 have ha:=LsAt.len hl
 cases t0:(decide (n=0)||decide (n=1))
 rotate_left
 cases t1:noS s
 rotate_left
 cases t2:noS name
 rotate_left
 cases t3:noS src
 rotate_left
 cases t4:decide (m=0)
 rotate_left
 exact rbuilt_3_5 n s name src A m c args w d ha t0 t1 t2 t3 t4
 all_goals
  generalize hfin:headR 3 n s name src args.length=fin
  rw[ha,headR_3 ] at hfin
  simp[*] at hfin
  subst hfin
  clear hl ha
  first|(obtain⟨t0b,t0c⟩:=n01_yes t0;clear t0)|replace t0:=n01_no t0|skip
  first|replace t1:=str_empty t1|(have q:=str_neq t1;clear t1;obtain⟨t1,t1b,t1c⟩:=q)|skip
  first|replace t2:=str_empty t2|(have q:=str_neq t2;clear t2;obtain⟨t2,t2b,t2c⟩:=q)|skip
  first|replace t3:=str_empty t3|(have q:=str_neq t3;clear t3;obtain⟨t3,t3b,t3c⟩:=q)|skip
  first|replace t4:=l0_no t4|skip
  obtain⟨w2,Hw2⟩:∃ w2,Hid (w2=(w.alloc (.cells #[.int .i64 3,.int .i64 n,.string s,.string name,.string src,.slice A m c] 89)).alloc (.cells #[.int .i64 3,.int .i64 0,.string { data:=#[] },.string { data:=#[] },.string { data:=#[] },.slice none 0 0] 89)):=⟨_,rfl⟩
  have hR:Below w.heap.size w w2:=by rw[Hw2.out];exact((Below.refl _ _).alloc (Nat.le_refl _) _).alloc (by simp) _
  have he2:IsBlk w2 w.heap.size 89 #[.int .i64 3,.int .i64 n,.string s,.string name,.string src,.slice A m c]:=by rw[Hw2.out];exact(IsBlk.laid _ _ _).alloc _
  have hw2:IsBlk w2 (w.heap.size+1) 89 #[.int .i64 3,.int .i64 0,.string { data:=#[] },.string { data:=#[] },.string { data:=#[] },.slice none 0 0]:=by rw[Hw2.out];exact laid_at (by simp) _ _
  obtain⟨x0,x1,x2,x3,x4,x5,xl⟩:=exBox he2
  obtain⟨y0,y1,y2,y3,y4,y5,hlw⟩:=exBox hw2
  have hfz:=hw2.frozen
  have hA5:=x5
  clear he2 hw2
  go_enter Tryz.func52,Tryz.ntmps52
  go_upto_region 2 with (fail)
  rw[← Hw2.out]
  go_wp2_with (first|fail)
  all_goals
   go_ret
   exact⟨rfl,by repeat (first|exact hR|refine Below.setCell ?_ (by simp) _)⟩
theorem rbuilt_4_5  (n:Int) (s name src:ByteArray) (A:Option Addr) (m c:Nat) (args:List Ex) (w:World) (d:Nat) (okn:okS name) (ha:args.length=m) (t0:freeB name=true) (t1:decide (n=0)=true) (t2:noS s=true) (t3:noS src=true) (t4:decide (m=0)=true) :
  Calls Tryz.prog 52 #[.agg #[.int .i64 4,.int .i64 n,.string s,.string name,.string src,.slice A m c]] w fun x w'=>x=.returned (.bool (headR 4 n s name src args.length&&args.all (builtE d)))∧Below w.heap.size w w':=by
 have hfin:headR 4 n s name src args.length=true:=by
  rw[ha,headR_4 ]
  simp[t0,t1,t2,t3,t4]
 have Hfin:=Lhd hfin
 clear hfin
 have HF0:=Lhd (fun W=>freeRef_any name W okn)
 rw[t0] at HF0
 clear t0
 have t1b:(n==0)=true:=by simpa using t1
 have t1c:(n !=0)=false:=by simpa using t1
 clear t1
 replace t2:=str_empty t2
 replace t3:=str_empty t3
 have t4b:m=0:=by simpa using t4
 have hmb:m≤1000:=by omega
 have Hm:=Lhd t4b
 have t4c:((m:Int) !=0)=false:=by simp;omega
 clear t4b t4
 obtain⟨w2,Hw2⟩:∃ w2,Hid (w2=(w.alloc (.cells #[.int .i64 4,.int .i64 n,.string s,.string name,.string src,.slice A m c] 89)).alloc (.cells #[.int .i64 4,.int .i64 0,.string { data:=#[] },.string { data:=#[] },.string { data:=#[] },.slice none 0 0] 89)):=⟨_,rfl⟩
 have hR:Below w.heap.size w w2:=by rw[Hw2.out];exact((Below.refl _ _).alloc (Nat.le_refl _) _).alloc (by simp) _
 have he2:IsBlk w2 w.heap.size 89 #[.int .i64 4,.int .i64 n,.string s,.string name,.string src,.slice A m c]:=by rw[Hw2.out];exact(IsBlk.laid _ _ _).alloc _
 have hw2:IsBlk w2 (w.heap.size+1) 89 #[.int .i64 4,.int .i64 0,.string { data:=#[] },.string { data:=#[] },.string { data:=#[] },.slice none 0 0]:=by rw[Hw2.out];exact laid_at (by simp) _ _
 obtain⟨x0,x1,x2,x3,x4,x5,xl⟩:=exBox he2
 obtain⟨y0,y1,y2,y3,y4,y5,hlw⟩:=exBox hw2
 have hfz:=hw2.frozen
 have hA5:=x5
 clear he2 hw2
 have Ha:=Lhd ha
 clear ha
 go_enter Tryz.func52,Tryz.ntmps52
 go_upto_region 2 with (fail)
 rw[← Hw2.out]
 go_wp2_with (first|fail|(go_at_call 28;(with_reducible refine(HF0.out _).mono ?_);rintro x w10 ⟨rfl,hb0⟩;(obtain⟨hc0,hf0⟩:=old_reads hb0;have hz0:=hb0.size;simp[World.setCell] at hz0;have hR0:Below w.heap.size w w10:=Below.trans (by repeat (first|exact hR|refine Below.setCell ?_ (by simp) _)) (hb0.mono (by first|(simp[World.setCell];done)|(have:=hR.size;simp[World.setCell];omega)));replace hR:=hR0;replace hA5:=(hb0.cell (p:=⟨w.heap.size,5,none⟩) (by first|(simp[World.setCell];done)|(simp[World.setCell];omega))).trans ((set_other (by simp)).trans hA5);have hlx0:w.heap.size+1<w10.heap.size:=(by omega);have hly0:w.heap.size<w10.heap.size:=(by omega))))
 go_loop [5] (fun i=>i=.int .i64 0) (fun _=>0)
 case atStart=>rfl
 case round =>
  obtain rfl:=hrel
  go_wp2
  go_ret
  have h0:args=[]:=List.eq_nil_of_length_eq_zero (by rw[Ha.out];have:=Hm.out;omega)
  subst h0
  exact⟨ret_bool (by rw[Hfin.out];simp),by repeat (first|exact hR|refine Below.setCell ?_ (by simp) _)⟩
theorem rbuiltK_4  (n:Int) (s name src:ByteArray) (A:Option Addr) (m c:Nat) (args:List Ex) (w:World) (F:Nat→Prop) (d:Nat) (hl:ExsAt F d w A m c args) (okn:okS name) :
  Calls Tryz.prog 52 #[.agg #[.int .i64 4,.int .i64 n,.string s,.string name,.string src,.slice A m c]] w fun x w'=>x=.returned (.bool (headR 4 n s name src args.length&&args.all (builtE d)))∧Below w.heap.size w w':=by
 have ha:=LsAt.len hl
 cases t0:freeB name
 rotate_left
 cases t1:decide (n=0)
 rotate_left
 cases t2:noS s
 rotate_left
 cases t3:noS src
 rotate_left
 cases t4:decide (m=0)
 rotate_left
 exact rbuilt_4_5 n s name src A m c args w d okn ha t0 t1 t2 t3 t4
 all_goals
  generalize hfin:headR 4 n s name src args.length=fin
  rw[ha,headR_4 ] at hfin
  simp[*] at hfin
  subst hfin
  clear hl ha
  have HF0:=Lhd (fun W=>freeRef_any name W okn)
  try (rw[t0] at HF0;clear t0)
  first|(obtain⟨t1b,t1c⟩:=z_yes t1;clear t1)|(obtain⟨t1b,t1c⟩:=z_no t1;clear t1)|skip
  first|replace t2:=str_empty t2|(have q:=str_neq t2;clear t2;obtain⟨t2,t2b,t2c⟩:=q)|skip
  first|replace t3:=str_empty t3|(have q:=str_neq t3;clear t3;obtain⟨t3,t3b,t3c⟩:=q)|skip
  first|replace t4:=l0_no t4|skip
  obtain⟨w2,Hw2⟩:∃ w2,Hid (w2=(w.alloc (.cells #[.int .i64 4,.int .i64 n,.string s,.string name,.string src,.slice A m c] 89)).alloc (.cells #[.int .i64 4,.int .i64 0,.string { data:=#[] },.string { data:=#[] },.string { data:=#[] },.slice none 0 0] 89)):=⟨_,rfl⟩
  have hR:Below w.heap.size w w2:=by rw[Hw2.out];exact((Below.refl _ _).alloc (Nat.le_refl _) _).alloc (by simp) _
  have he2:IsBlk w2 w.heap.size 89 #[.int .i64 4,.int .i64 n,.string s,.string name,.string src,.slice A m c]:=by rw[Hw2.out];exact(IsBlk.laid _ _ _).alloc _
  have hw2:IsBlk w2 (w.heap.size+1) 89 #[.int .i64 4,.int .i64 0,.string { data:=#[] },.string { data:=#[] },.string { data:=#[] },.slice none 0 0]:=by rw[Hw2.out];exact laid_at (by simp) _ _
  obtain⟨x0,x1,x2,x3,x4,x5,xl⟩:=exBox he2
  obtain⟨y0,y1,y2,y3,y4,y5,hlw⟩:=exBox hw2
  have hfz:=hw2.frozen
  have hA5:=x5
  clear he2 hw2
  go_enter Tryz.func52,Tryz.ntmps52
  go_upto_region 2 with (fail)
  rw[← Hw2.out]
  go_wp2_with (first|fail|(go_at_call 28;(with_reducible refine(HF0.out _).mono ?_);rintro x w10 ⟨rfl,hb0⟩;(obtain⟨hc0,hf0⟩:=old_reads hb0;have hz0:=hb0.size;simp[World.setCell] at hz0;have hR0:Below w.heap.size w w10:=Below.trans (by repeat (first|exact hR|refine Below.setCell ?_ (by simp) _)) (hb0.mono (by first|(simp[World.setCell];done)|(have:=hR.size;simp[World.setCell];omega)));replace hR:=hR0;replace hA5:=(hb0.cell (p:=⟨w.heap.size,5,none⟩) (by first|(simp[World.setCell];done)|(simp[World.setCell];omega))).trans ((set_other (by simp)).trans hA5);have hlx0:w.heap.size+1<w10.heap.size:=(by omega);have hly0:w.heap.size<w10.heap.size:=(by omega))))
  all_goals
   go_ret
   exact⟨rfl,by repeat (first|exact hR|refine Below.setCell ?_ (by simp) _)⟩
theorem rbuilt_5_5  (n:Int) (s name src:ByteArray) (A:Option Addr) (m c:Nat) (args:List Ex) (w:World) (d:Nat) (okn:okS name) (oks:okS s) (ha:args.length=m) (t0:freeB name=true) (t1:freeB s=true) (t2:decide (n=0)=true) (t3:noS src=true) (t4:decide (m=0)=true) :
  Calls Tryz.prog 52 #[.agg #[.int .i64 5,.int .i64 n,.string s,.string name,.string src,.slice A m c]] w fun x w'=>x=.returned (.bool (headR 5 n s name src args.length&&args.all (builtE d)))∧Below w.heap.size w w':=by
 have hfin:headR 5 n s name src args.length=true:=by
  rw[ha,headR_5 ]
  simp[t0,t1,t2,t3,t4]
 have Hfin:=Lhd hfin
 clear hfin
 have HF0:=Lhd (fun W=>freeRef_any name W okn)
 rw[t0] at HF0
 clear t0
 have HF1:=Lhd (fun W=>freeRef_any s W oks)
 rw[t1] at HF1
 clear t1
 have t2b:(n==0)=true:=by simpa using t2
 have t2c:(n !=0)=false:=by simpa using t2
 clear t2
 replace t3:=str_empty t3
 have t4b:m=0:=by simpa using t4
 have hmb:m≤1000:=by omega
 have Hm:=Lhd t4b
 have t4c:((m:Int) !=0)=false:=by simp;omega
 clear t4b t4
 obtain⟨w2,Hw2⟩:∃ w2,Hid (w2=(w.alloc (.cells #[.int .i64 5,.int .i64 n,.string s,.string name,.string src,.slice A m c] 89)).alloc (.cells #[.int .i64 5,.int .i64 0,.string { data:=#[] },.string { data:=#[] },.string { data:=#[] },.slice none 0 0] 89)):=⟨_,rfl⟩
 have hR:Below w.heap.size w w2:=by rw[Hw2.out];exact((Below.refl _ _).alloc (Nat.le_refl _) _).alloc (by simp) _
 have he2:IsBlk w2 w.heap.size 89 #[.int .i64 5,.int .i64 n,.string s,.string name,.string src,.slice A m c]:=by rw[Hw2.out];exact(IsBlk.laid _ _ _).alloc _
 have hw2:IsBlk w2 (w.heap.size+1) 89 #[.int .i64 5,.int .i64 0,.string { data:=#[] },.string { data:=#[] },.string { data:=#[] },.slice none 0 0]:=by rw[Hw2.out];exact laid_at (by simp) _ _
 obtain⟨x0,x1,x2,x3,x4,x5,xl⟩:=exBox he2
 obtain⟨y0,y1,y2,y3,y4,y5,hlw⟩:=exBox hw2
 have hfz:=hw2.frozen
 have hA5:=x5
 clear he2 hw2
 have Ha:=Lhd ha
 clear ha
 go_enter Tryz.func52,Tryz.ntmps52
 go_upto_region 2 with (fail)
 rw[← Hw2.out]
 go_wp2_with (first|fail|(go_at_call 28;(with_reducible refine(HF0.out _).mono ?_);rintro x w10 ⟨rfl,hb0⟩;(obtain⟨hc0,hf0⟩:=old_reads hb0;have hz0:=hb0.size;simp[World.setCell] at hz0;have hR0:Below w.heap.size w w10:=Below.trans (by repeat (first|exact hR|refine Below.setCell ?_ (by simp) _)) (hb0.mono (by first|(simp[World.setCell];done)|(have:=hR.size;simp[World.setCell];omega)));replace hR:=hR0;replace hA5:=(hb0.cell (p:=⟨w.heap.size,5,none⟩) (by first|(simp[World.setCell];done)|(simp[World.setCell];omega))).trans ((set_other (by simp)).trans hA5);have hlx0:w.heap.size+1<w10.heap.size:=(by omega);have hly0:w.heap.size<w10.heap.size:=(by omega)))|(go_at_call 28;(with_reducible refine(HF1.out _).mono ?_);rintro x w11 ⟨rfl,hb1⟩;(obtain⟨hc1,hf1⟩:=old_reads hb1;have hz1:=hb1.size;simp[World.setCell] at hz1;have hR1:Below w.heap.size w w11:=Below.trans (by repeat (first|exact hR|refine Below.setCell ?_ (by simp) _)) (hb1.mono (by first|(simp[World.setCell];done)|(have:=hR.size;simp[World.setCell];omega)));replace hR:=hR1;replace hA5:=(hb1.cell (p:=⟨w.heap.size,5,none⟩) (by first|(simp[World.setCell];done)|(simp[World.setCell];omega))).trans ((set_other (by simp)).trans hA5);have hlx1:w.heap.size+1<w11.heap.size:=(by omega);have hly1:w.heap.size<w11.heap.size:=(by omega))))
 go_loop [5] (fun i=>i=.int .i64 0) (fun _=>0)
 case atStart=>rfl
 case round =>
  obtain rfl:=hrel
  go_wp2
  go_ret
  have h0:args=[]:=List.eq_nil_of_length_eq_zero (by rw[Ha.out];have:=Hm.out;omega)
  subst h0
  exact⟨ret_bool (by rw[Hfin.out];simp),by repeat (first|exact hR|refine Below.setCell ?_ (by simp) _)⟩
theorem rbuiltK_5  (n:Int) (s name src:ByteArray) (A:Option Addr) (m c:Nat) (args:List Ex) (w:World) (F:Nat→Prop) (d:Nat) (hl:ExsAt F d w A m c args) (okn:okS name) (oks:okS s) :
  Calls Tryz.prog 52 #[.agg #[.int .i64 5,.int .i64 n,.string s,.string name,.string src,.slice A m c]] w fun x w'=>x=.returned (.bool (headR 5 n s name src args.length&&args.all (builtE d)))∧Below w.heap.size w w':=by
 have ha:=LsAt.len hl
 cases t0:freeB name
 rotate_left
 cases t1:freeB s
 rotate_left
 cases t2:decide (n=0)
 rotate_left
 cases t3:noS src
 rotate_left
 cases t4:decide (m=0)
 rotate_left
 exact rbuilt_5_5 n s name src A m c args w d okn oks ha t0 t1 t2 t3 t4
 all_goals
  generalize hfin:headR 5 n s name src args.length=fin
  rw[ha,headR_5 ] at hfin
  simp[*] at hfin
  subst hfin
  clear hl ha
  have HF0:=Lhd (fun W=>freeRef_any name W okn)
  try (rw[t0] at HF0;clear t0)
  have HF1:=Lhd (fun W=>freeRef_any s W oks)
  try (rw[t1] at HF1;clear t1)
  first|(obtain⟨t2b,t2c⟩:=z_yes t2;clear t2)|(obtain⟨t2b,t2c⟩:=z_no t2;clear t2)|skip
  first|replace t3:=str_empty t3|(have q:=str_neq t3;clear t3;obtain⟨t3,t3b,t3c⟩:=q)|skip
  first|replace t4:=l0_no t4|skip
  obtain⟨w2,Hw2⟩:∃ w2,Hid (w2=(w.alloc (.cells #[.int .i64 5,.int .i64 n,.string s,.string name,.string src,.slice A m c] 89)).alloc (.cells #[.int .i64 5,.int .i64 0,.string { data:=#[] },.string { data:=#[] },.string { data:=#[] },.slice none 0 0] 89)):=⟨_,rfl⟩
  have hR:Below w.heap.size w w2:=by rw[Hw2.out];exact((Below.refl _ _).alloc (Nat.le_refl _) _).alloc (by simp) _
  have he2:IsBlk w2 w.heap.size 89 #[.int .i64 5,.int .i64 n,.string s,.string name,.string src,.slice A m c]:=by rw[Hw2.out];exact(IsBlk.laid _ _ _).alloc _
  have hw2:IsBlk w2 (w.heap.size+1) 89 #[.int .i64 5,.int .i64 0,.string { data:=#[] },.string { data:=#[] },.string { data:=#[] },.slice none 0 0]:=by rw[Hw2.out];exact laid_at (by simp) _ _
  obtain⟨x0,x1,x2,x3,x4,x5,xl⟩:=exBox he2
  obtain⟨y0,y1,y2,y3,y4,y5,hlw⟩:=exBox hw2
  have hfz:=hw2.frozen
  have hA5:=x5
  clear he2 hw2
  go_enter Tryz.func52,Tryz.ntmps52
  go_upto_region 2 with (fail)
  rw[← Hw2.out]
  go_wp2_with (first|fail|(go_at_call 28;(with_reducible refine(HF0.out _).mono ?_);rintro x w10 ⟨rfl,hb0⟩;(obtain⟨hc0,hf0⟩:=old_reads hb0;have hz0:=hb0.size;simp[World.setCell] at hz0;have hR0:Below w.heap.size w w10:=Below.trans (by repeat (first|exact hR|refine Below.setCell ?_ (by simp) _)) (hb0.mono (by first|(simp[World.setCell];done)|(have:=hR.size;simp[World.setCell];omega)));replace hR:=hR0;replace hA5:=(hb0.cell (p:=⟨w.heap.size,5,none⟩) (by first|(simp[World.setCell];done)|(simp[World.setCell];omega))).trans ((set_other (by simp)).trans hA5);have hlx0:w.heap.size+1<w10.heap.size:=(by omega);have hly0:w.heap.size<w10.heap.size:=(by omega)))|(go_at_call 28;(with_reducible refine(HF1.out _).mono ?_);rintro x w11 ⟨rfl,hb1⟩;(obtain⟨hc1,hf1⟩:=old_reads hb1;have hz1:=hb1.size;simp[World.setCell] at hz1;have hR1:Below w.heap.size w w11:=Below.trans (by repeat (first|exact hR|refine Below.setCell ?_ (by simp) _)) (hb1.mono (by first|(simp[World.setCell];done)|(have:=hR.size;simp[World.setCell];omega)));replace hR:=hR1;replace hA5:=(hb1.cell (p:=⟨w.heap.size,5,none⟩) (by first|(simp[World.setCell];done)|(simp[World.setCell];omega))).trans ((set_other (by simp)).trans hA5);have hlx1:w.heap.size+1<w11.heap.size:=(by omega);have hly1:w.heap.size<w11.heap.size:=(by omega))))
  all_goals
   go_ret
   exact⟨rfl,by repeat (first|exact hR|refine Below.setCell ?_ (by simp) _)⟩
end Go.Proofs.YtmfcmpnlipnopaaGreat
