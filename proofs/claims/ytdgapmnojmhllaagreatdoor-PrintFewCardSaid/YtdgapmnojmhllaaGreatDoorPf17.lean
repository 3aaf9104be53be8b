/- Parts of this proof, one behind the other: PrtM, PrtN, PrtO, PrtU, PrtT0, PrtT, PrtW. -/
import Derived.Test.YtdgapmnojmhllaaGreatDoorPf16
import Derived.Test.YtdgapmnojmhllaaGreatDoorPf5
import Derived.Test.YtdgapmnojmhllaaGreatDoorPf3
import Derived.Test.YtdgapmnojmhllaaGreatDoorPf13
import Derived.Test.YtdgapmnojmhllaaGreatDoorPf14
import Derived.Deep.AppendSrc
set_option maxRecDepth 1000000
set_option maxHeartbeats 40000000
namespace Go.Proofs.YtdgapmnojmhllaaGreatDoor
open Go.RowKit Go.Afx
def rightE (d:Nat) (e:Ex):Bool:=smallZ (sizeE d 0 e)&&builtE d e
theorem ret_b {a b:Bool} (h:a=b):Ending.returned (.bool a)=.returned (.bool b):=by rw[h]
theorem rightE_any (F:Nat→Prop) (d:Nat) (e:Ex) (row:List Value) (w:World) (h:ExAt F d w row e) (hd:d≤10000) :
  Calls Tryz.prog 19 #[.agg row.toArray] w fun x w'=>x=.returned (.bool (rightE d e))∧Below w.heap.size w w':=by
 have hq:rightE d e=(smallZ (sizeE d 0 e)&&builtE d e):=rfl
 obtain⟨A,m,c,hrow⟩:=ex_row h
 obtain⟨w1,Hw1⟩:∃ w1,Hid (w1=w.alloc (.cells row.toArray 32)):=⟨_,rfl⟩
 have hb1:Below w.heap.size w w1:=by rw[Hw1.out];exact(Below.refl _ _).alloc (Nat.le_refl _) _
 have hk1:IsBlk w1 w.heap.size 32 row.toArray:=by rw[Hw1.out];exact IsBlk.laid _ _ _
 have Hx:=Lhd (fun W (hW:Below w1.heap.size w1 W)=>(show IsBlk W w.heap.size 32 row.toArray from hk1.as_was (hW.block _ hk1.lt)))
 have Hs:=Lhd (sizeE_any F d e row 0 w1 (h.below hb1) (by omega) (by omega))
 have Hb:=Lhd (fun W (hW:Below w.heap.size w W)=>builtE_any F d e row W (h.below hW))
 have Hb1:=Lhd hb1
 subst hrow
 generalize sizeE d 0 e=s at *
 generalize builtE d e=qb at *
 generalize rightE d e=fin at *
 have Hfin:=Lhd hq
 obtain⟨s1,s2⟩:=s
 clear hq h hb1 hk1
 go_enter Tryz.func19,Tryz.ntmps19
 go_upto_region 1 with (fail)
 rw[← Hw1.out]
 obtain⟨x0,x1,x2,x3,x4,x5,xl⟩:=box6 (Hx.out _ (Below.refl _ _))
 go_upto_region 2 with (go_at_call 42;refine Hs.out.mono ?_;rintro x w2 ⟨rfl,hb2⟩)
 have hk:IsBlk (w2.alloc (.cells #[.int .i64 s1,.int .i64 s2] 103)) w2.heap.size 103 #[.int .i64 s1,.int .i64 s2]:=IsBlk.laid _ _ _
 have hb3:Below w1.heap.size w1 (w2.alloc (.cells #[.int .i64 s1,.int .i64 s2] 103)):=hb2.alloc hb2.size _
 generalize w2.alloc (.cells #[.int .i64 s1,.int .i64 s2] 103)=w3 at *
 have Hs3:=Lhd (small_any _ s1 s2 w3 hk)
 have hbb:=Hb1.out.trans (hb3.mono Hb1.out.size)
 have Hb3:=Lhd (And.intro (Hb.out _ hbb) hbb)
 clear x0 x1 x2 x3 x4 x5 xl
 obtain⟨x0,x1,x2,x3,x4,x5,xl⟩:=box6 (Hx.out _ hb3)
 have hkl:=hk.lt
 clear hk hb2 hb3 hbb
 generalize smallZ (s1,s2)=qs at *
 cases qs
 ·go_wp2_with (go_at_call 43;refine Hs3.out.mono ?_;rintro x w' ⟨rfl,rfl⟩)
  go_ret
  exact⟨ret_b (by rw[Hfin.out];simp),Hb3.out.2⟩
 ·go_wp2_with (first|(go_at_call 43;refine Hs3.out.mono ?_;rintro x w' ⟨rfl,rfl⟩)|(go_at_call 44;refine Hb3.out.1.mono ?_;rintro x w4 ⟨rfl,hb4⟩))
  go_ret
  exact⟨ret_b (by rw[Hfin.out];simp),Hb3.out.2.trans (hb4.mono Hb3.out.2.size)⟩
theorem len_any (g:Nat) (t:List UInt8) (br:Bool) (w:World) (h:WtAt g t br w):Calls Tryz.prog 40 #[.pointer (some ⟨g,0,none⟩)] w fun e w'=>e=.returned (.int .i64 t.length)∧w=w':=by
 obtain⟨p,A,c,hk,_⟩:∃ p A c,IsBlk w g 99 #[.pointer p,.slice A t.length c,.bool br]∧True:=by
  rcases h with ⟨A,c,hk,_⟩|⟨A,c,hk,_⟩<;>exact⟨_,_,_,hk,trivial⟩
 obtain⟨c0,c1,c2,hlt,_⟩:=wtBox hk
 clear h hk
 go_enter Tryz.func40,Tryz.ntmps40
 go_wp2
 go_ret
 exact⟨rfl,rfl⟩
theorem string_any (g:Nat) (t:List UInt8) (br:Bool) (w:World) (h:WtAt g t br w) (h0:t≠[]):Calls Tryz.prog 41 #[.pointer (some ⟨g,0,none⟩)] w fun e w'=>e=.returned (.string ⟨t.toArray⟩)∧Below g w w':=by
 obtain⟨p,A,c,hk,ho⟩:∃ p A c,IsBlk w g 99 #[.pointer p,.slice A t.length c,.bool br]∧w.ownsRow (g+1) 5 1 (.slice A t.length c) t.length (Lib.byteCells t):=by
  rcases h with ⟨A,c,hk,ho⟩|⟨A,c,hk,ho⟩<;>exact⟨_,_,_,hk,ho⟩
 have hl0:t.length≠0:=by simpa using h0
 obtain⟨k,cap,cur,hA,hbk,hkk,hnc,hcm,hcs,htake⟩:∃ k cap cur,(Value.slice A t.length c)=.slice (some ⟨k,0,none⟩) t.length cap∧g+1≤k∧w.heap[k]?=some (.cells cur 5 (0,0))∧t.length≤cap∧cap≤maxLen∧cur.size=cap*1∧cur.toList.take (t.length*1)=Lib.byteCells t:=by
  rcases ho.2 with ⟨_,hz⟩|⟨k,cap,cur,hv,r⟩
  ·exact absurd hz hl0
  ·exact⟨k,cap,cur,hv,r⟩
 injection hA with e1 e2 e3
 subst e1 e3
 have hkd:IsBlk w.drew g 99 #[.pointer p,.slice (some ⟨k,0,none⟩) t.length c,.bool br]:=hk
 obtain⟨c0,c1,c2,hlt,_⟩:=wtBox hkd
 have hSD:∀ ts ty,(Builtin.unsafeSliceData_ ts ty #[.slice (some ⟨k,0,none⟩) t.length c]).run Tryz.prog w.drew=.ok (.pointer (some ⟨k,0,none⟩)) w.drew:=fun ts ty=>Lib.run_unsafeSliceData_row _ _ _ _ _ _ (by omega)
 have hUS:(Builtin.unsafeString_ #[145,3] 9 #[.pointer (some ⟨k,0,none⟩),.int .i64 t.length]).run Tryz.prog w.drew=.ok (.string ⟨t.toArray⟩) (w.drew.freeze ⟨k,0,none⟩ t.length):=by
  refine Lib.run_unsafeString_row w.drew 145 3 9 5 Tryz.underlying145 (by kernel_rfl) k cur.size (by have hg':w.drew.heap[k]?=some (.cells cur 5 (0,0)):=hkk;simp[World.shape?,hg']) t h0 (by omega) (by unfold maxLen at hcm;omega) ?_
  intro j x hx
  have:=ho.cells (g:=k) rfl j (.int .u8 x.toNat) (by simp[Lib.byteCells,hx])
  exact this
 clear h hk hkd ho htake hkk
 go_enter Tryz.func41,Tryz.ntmps41
 go_wp2
 go_region
 all_goals (go_wp2;go_ret;exact⟨rfl,Lib.below_freeze (Below.drew (Below.refl g w)) (p:=⟨k,0,none⟩) (show g≤k by omega) _⟩)
theorem digs_ne {n:Nat} (h:0<n):digs n≠[]:=by rw[digs_pos h];simp
theorem free_ne {s:ByteArray} (h:freeB s=true):s.data.toList≠[]:=by
 intro e
 unfold freeB namedB at h
 rw[e] at h
 simp at h
theorem txt_ne {d:Nat} {e:Ex} (h:builtE d e=true):txtE d e≠[]:=by
 obtain⟨o1,o2⟩:=built_op h
 cases d with
 | zero=>cases h
 | succ d =>
  obtain⟨op,n,s,name,src,args⟩:=e
  have o1:1≤op:=o1
  have o2:op≤24:=o2
  obtain⟨ha,hf,_⟩:=fields_op h
  rw[txt_op]
  by_cases h5:op≤5
  ·have h5:op=1∨op=2∨op=3∨op=4∨op=5:=by omega
   rcases h5 with rfl|rfl|rfl|rfl|rfl
   ·have e:fieldsR 1 n s name src=(decide (0≤n)&&noS s&&noS name&&noS src):=rfl
    rw[e] at hf
    simp only[Bool.and_eq_true,decide_eq_true_eq] at hf
    rw[if_pos rfl]
    unfold decS
    split
    ·simp
    ·exact digs_ne (by have:=hf.1.1.1;omega)
   ·simp[quoteS]
   ·simp only[trueL,falseL]
    split<;>simp_all
    split<;>simp
   ·have e:fieldsR 4 n s name src=(freeB name&&decide (n=0)&&noS s&&noS src):=rfl
    rw[e] at hf
    simp only[Bool.and_eq_true] at hf
    simpa using free_ne hf.1.1.1
   ·simp
  ·rw [if_neg (by omega),if_neg (by omega),if_neg (by omega),if_neg (by omega),if_neg (by omega)]
   rcases args with _|⟨a,r⟩
   ·exfalso
    rcases len_args ha (by omega) o2 with ⟨h1,_⟩|⟨h1,_⟩<;>simp at h1
   ·simp only
    split
    ·have:sgnL op≠[]:=by
      rename_i h
      rcases h with rfl|rfl<;>decide
     simp[this]
    ·split<;>simp
theorem kept_any (F:Nat→Prop) (d:Nat) (e:Ex) (row:List Value) (x g:Nat) (t:List UInt8) (br:Bool) (w:World) (hx:ExAt F d w row e) (hb:builtE d e=true) (hF:∀ k,F k→k<g) (hk:IsBlk w x 32 row.toArray) (h:WtAt g t br w) (hm:HasMax w) (hg:0<g) (hlen:t.length+(txtE d e).length≤1000000000) :
  Calls Tryz.prog 20 #[.pointer (some ⟨g,0,none⟩),.pointer (some ⟨x,0,none⟩)] w fun e' w'=>e'=.returned (.tuple #[])∧WtAt g (t++txtE d e) (br||nlE d e) w'∧Wrote g w w':=by
 obtain⟨A,m,c,hrow⟩:=ex_row hx
 have Hc:=Lhd (expr_any d F e row g t br w hx hb hF h hm hg hlen)
 subst hrow
 obtain⟨x0,x1,x2,x3,x4,x5,xl⟩:=box6 hk
 clear hx hb hF hk h hm hg hlen
 go_enter Tryz.func20,Tryz.ntmps20
 go_wp2_with (go_at_call 21;refine Hc.out.mono ?_)
 rintro e' w2 ⟨rfl,h1,h2⟩
 have H:=Lhd (And.intro h1 h2)
 clear h1 h2
 go_wp2
 go_end0
 exact⟨rfl,H.out.1,H.out.2⟩
theorem printed_no (f:Value) (w:World):Calls Tryz.prog 18 #[.bool false,f] w fun e w'=>e=.returned (.tuple #[.string ⟨#[]⟩,.int .i64 1])∧w=w':=by
 go_enter Tryz.func18,Tryz.ntmps18
 go_wp2
 go_ret2
 exact⟨rfl,rfl⟩
def printS (br:Bool) (t:List UInt8):List UInt8×Int:=if br then ([],1) else if 8000<t.length then ([],5) else (t,0)
theorem wt_new (w:World):WtAt w.heap.size [] false (w.alloc (.cells #[.pointer none,.slice none 0 0,.bool false] 99)):=.inl ⟨none,0,IsBlk.laid _ _ _,World.ownsRow_nil _ _ _ _⟩
theorem printed_yes (x:Nat) (t:List UInt8) (br:Bool) (w:World) (ht:t≠[])
  (hc:∀ W,Below w.heap.size w W→WtAt w.heap.size [] false W→Calls Tryz.prog 20 #[.pointer (some ⟨w.heap.size,0,none⟩),.pointer (some ⟨x,0,none⟩)] W fun e' w'=>e'=.returned (.tuple #[])∧WtAt w.heap.size t br w'∧Wrote w.heap.size W w') :
  Calls Tryz.prog 18 #[.bool true,.func (.func 20) #[] #[.pointer (some ⟨x,0,none⟩)]] w fun e w'=>e=.returned (.tuple #[.string ⟨(printS br t).1.toArray⟩,.int .i64 (printS br t).2])∧Below w.heap.size w w':=by
 have hb1:Below w.heap.size w (w.alloc (.cells #[.pointer none,.slice none 0 0,.bool false] 99)):=(Below.refl _ _).alloc (Nat.le_refl _) _
 have Hc:=Lhd (hc _ hb1 (wt_new w))
 have Hb1:=Lhd hb1
 have Ht:=Lhd ht
 clear hc hb1 ht
 go_enter Tryz.func18,Tryz.ntmps18
 go_wp2_with (go_at_call 20;refine Hc.out.mono ?_)
 rintro e' w2 ⟨rfl,h2,hr2⟩
 obtain⟨b1,_,b3⟩:=h2.brk
 have Hr2:=Lhd (And.intro h2 (Hb1.out.trans hr2.1))
 have Hln:=Lhd (len_any _ _ _ _ h2)
 have Hst:=Lhd (string_any _ _ _ _ h2 Ht.out)
 clear h2 hr2
 cases br
 ·rcases Classical.em (8000<t.length) with hl|hl
  ·have hd:decide ((8000:Int)<(t.length:Int))=true:=by simp;omega
   have e:printS false t=([],5):=by unfold printS;rw[if_neg (by decide),if_pos hl]
   have He:=Lhd e
   clear hl e
   go_wp2_with (go_at_call 40;refine Hln.out.mono ?_;rintro e' w3 ⟨rfl,rfl⟩)
   go_ret2
   rw[He.out]
   exact⟨rfl,Hr2.out.2⟩
  ·have hd:decide ((8000:Int)<(t.length:Int))=false:=by simp;omega
   have e:printS false t=(t,0):=by unfold printS;rw[if_neg (by decide),if_neg hl]
   have He:=Lhd e
   clear hl e
   go_wp2_with (first|(go_at_call 40;refine Hln.out.mono ?_;rintro e' w3 ⟨rfl,rfl⟩)|(go_at_call 41;refine Hst.out.mono ?_;rintro e' w4 ⟨rfl,hb4⟩))
   go_ret2
   rw[He.out]
   exact⟨rfl,Hr2.out.2.trans hb4⟩
 ·have e:printS true t=([],1):=by unfold printS;rw[if_pos rfl]
  have He:=Lhd e
  clear e
  go_wp2
  go_ret2
  rw[He.out]
  exact⟨rfl,Hr2.out.2⟩
def exprS (d:Nat) (e:Ex):List UInt8×Int:=if rightE d e then printS (nlE d e) (txtE d e) else ([],1)
theorem printExpr_any (F:Nat→Prop) (d:Nat) (e:Ex) (row:List Value) (w:World) (h:ExAt F d w row e) (hd:d≤10000) (hF:∀ k,F k→k<w.heap.size) (hm:HasMax w) (hlen:rightE d e=true→(txtE d e).length≤1000000000) :
  Calls Tryz.prog 8 #[.agg row.toArray] w fun x w'=>x=.returned (.tuple #[.string ⟨(exprS d e).1.toArray⟩,.int .i64 (exprS d e).2])∧Below w.heap.size w w':=by
 obtain⟨A,m,c,hrow⟩:=ex_row h
 obtain⟨w1,Hw1⟩:∃ w1,Hid (w1=w.alloc (.cells row.toArray 32)):=⟨_,rfl⟩
 have hb1:Below w.heap.size w w1:=by rw[Hw1.out];exact(Below.refl _ _).alloc (Nat.le_refl _) _
 have hk1:IsBlk w1 w.heap.size 32 row.toArray:=by rw[Hw1.out];exact IsBlk.laid _ _ _
 have Hri:=Lhd (rightE_any F d e row w1 (h.below hb1) hd)
 have Hyes:=Lhd (fun W (hW:Below w1.heap.size w1 W) (hr:rightE d e=true)=>printed_yes w.heap.size (txtE d e) (nlE d e) W (txt_ne (by unfold rightE at hr;simp only[Bool.and_eq_true] at hr;exact hr.2)) (fun W2 h2 hwt=>by
  have hbe:builtE d e=true:=by unfold rightE at hr;simp only[Bool.and_eq_true] at hr;exact hr.2
  have hall:Below w.heap.size w W2:=hb1.trans ((hW.mono hb1.size).trans (h2.mono (Nat.le_trans hb1.size hW.size)))
  have hk:=(hk1.as_was (hW.block _ hk1.lt)).as_was (h2.block _ (Nat.lt_of_lt_of_le hk1.lt hW.size))
  have hmg:=Nat.lt_of_lt_of_le hm.lt (Nat.le_trans hb1.size hW.size)
  have hres:=kept_any F d e row w.heap.size W.heap.size [] false W2 (h.below hall) hbe (fun k hk=>Nat.lt_of_lt_of_le (hF k hk) (Nat.le_trans hb1.size hW.size)) hk hwt (hm.below hm.lt hall) hmg (by simpa using hlen hr)
  rw[List.nil_append,Bool.false_or] at hres
  exact hres))
 have Hb1:=Lhd hb1
 have Hex:=Lhd (show exprS d e=if rightE d e then printS (nlE d e) (txtE d e) else ([],1) from rfl)
 generalize exprS d e=fin at *
 obtain⟨x0,x1,x2,x3,x4,x5,xl⟩:=box6 (show IsBlk w1 w.heap.size 32 #[.int .i64 e.op,.int .i64 e.n,.string e.s,.string e.name,.string e.src,.slice A m c] from by rw[hrow] at hk1;exact hk1)
 subst hrow
 have hmf:∀ (fn:Fn) (first cap:Array Value) (w:World),(Instr.makeFunc fn first cap).run Tryz.prog w=.ok (.func fn first cap) w:=fun _ _ _ _=>rfl
 clear h hb1 hk1 hF hm hlen hd
 generalize rightE d e=ri at *
 cases ri
 ·clear Hyes
  go_enter Tryz.func8,Tryz.ntmps8
  go_upto_region 1 with (fail)
  rw[← Hw1.out]
  go_wp2_with (first|(go_at_call 19;refine Hri.out.mono ?_;rintro x w2 ⟨rfl,hb2⟩)|(go_at_call 18;refine(printed_no _ _).mono ?_;rintro x w3 ⟨rfl,rfl⟩))
  go_ret2
  rw[Hex.out]
  exact⟨rfl,Hb1.out.trans (hb2.mono Hb1.out.size)⟩
 ·have Hy:=Lhd (fun W hW=>Hyes.out W hW rfl)
  clear Hyes
  go_enter Tryz.func8,Tryz.ntmps8
  go_upto_region 1 with (fail)
  rw[← Hw1.out]
  go_wp2_with (first|(go_at_call 19;refine Hri.out.mono ?_;rintro x w2 ⟨rfl,hb2⟩)|(go_at_call 18;refine(Hy.out _ hb2).mono ?_;rintro x w3 ⟨rfl,hb3⟩))
  go_ret2
  rw[Hex.out]
  exact⟨rfl,Hb1.out.trans ((hb2.mono Hb1.out.size).trans (hb3.mono (Nat.le_trans Hb1.out.size hb2.size)))⟩
theorem txt_len {F:Nat→Prop} {w:World}:∀ (d:Nat) (e:Ex) (row:List Value),ExAt F d w row e→builtE d e=true→(txtE d e).length≤500*cntE d e:=by
 intro d
 induction d with
 | zero=>intro e row hx h;cases h
 | succ d ih =>
  intro e row hx h
  obtain⟨o1,o2⟩:=built_op h
  obtain⟨op,n,s,name,src,args⟩:=e
  have o1:1≤op:=o1
  have o2:op≤24:=o2
  obtain⟨ha,hf,hall⟩:=fields_op h
  have hc:cntE (d+1) (.mk op n s name src args)=1+(args.map (cntE d)).sum:=rfl
  have hsg:=sgnL_len o1 o2
  rw[txt_op,hc]
  by_cases h5:op≤5
  ·suffices hs:(if op=1 then decS n else if op=2 then quoteS s else if op=3 then (if n=1 then trueL else falseL) else if op=4 then name.data.toList else if op=5 then name.data.toList++[46]++s.data.toList else []).length≤500 by
    have h5:op=1∨op=2∨op=3∨op=4∨op=5:=by omega
    rcases h5 with rfl|rfl|rfl|rfl|rfl<;>exact Nat.le_trans hs (by omega)
   have h5:op=1∨op=2∨op=3∨op=4∨op=5:=by omega
   rcases h5 with rfl|rfl|rfl|rfl|rfl
   ·show (decS n).length≤500
    unfold decS
    have h1:=decS_len (show okI n from hx.open_.2.1)
    unfold decS at h1
    omega
   ·have e:fieldsR 2 n s name src=(decide (s.size≤200)&&decide (n=0)&&noS name&&noS src):=rfl
    rw[e] at hf
    simp only[Bool.and_eq_true,decide_eq_true_eq] at hf
    show (quoteS s).length≤500
    unfold quoteS
    have h1:=dbl_len s.data.toList
    have h2:s.data.toList.length=s.size:=rfl
    have h3:=hf.1.1.1
    simp only[List.length_append,List.length_cons,List.length_nil]
    omega
   ·show (if n=1 then trueL else falseL).length≤500
    split<;>decide
   ·have e:fieldsR 4 n s name src=(freeB name&&decide (n=0)&&noS s&&noS src):=rfl
    rw[e] at hf
    simp only[Bool.and_eq_true] at hf
    have:=named_len hf.1.1.1
    show name.data.toList.length≤500
    omega
   ·have e:fieldsR 5 n s name src=(freeB name&&freeB s&&decide (n=0)&&noS src):=rfl
    rw[e] at hf
    simp only[Bool.and_eq_true] at hf
    have h1:=named_len hf.1.1.1
    have h2:=named_len hf.1.1.2
    show (name.data.toList++[46]++s.data.toList).length≤500
    simp only[List.length_append,List.length_cons,List.length_nil]
    omega
  ·rw [if_neg (by omega),if_neg (by omega),if_neg (by omega),if_neg (by omega),if_neg (by omega)]
   obtain⟨A,c,rfl,_,_,hat⟩:=args_at hx
   rcases args with _|⟨a,r⟩
   ·simp
   ·obtain⟨b,o,_,_,_,hget⟩:=hat (by simp)
    obtain⟨A1,m1,c1,_,hx1⟩:=hget 0 a rfl
    have h1:=ih a _ hx1 (hall a (by simp))
    rcases r with _|⟨a2,r⟩
    ·simp only[List.map_cons,List.map_nil,List.sum_cons,List.sum_nil]
     split
     ·have:=opnd_len (lvlZ op) a.op (txtE d a)
      rw[List.length_append]
      omega
     ·split
      ·rename_i h21
       have hr:fieldsR op n s name src=(freeB name&&freeB src&&decide (n=0)&&noS s):=by
        unfold fieldsR
        rw[if_neg (by omega),if_neg (by omega),if_neg (by omega),if_neg (by omega),if_neg (by omega),if_pos]
        simp[rowsB];omega
       rw[hr] at hf
       simp only[Bool.and_eq_true] at hf
       have n1:=named_len hf.1.1.1
       have n2:=named_len hf.1.1.2
       have hw:=whereT_len a.op a.n (txtE d a)
       unfold rowsT
       split<;>simp only[List.length_append,List.length_cons,List.length_nil]<;>omega
      ·have h3:=opnd_len (lvlZ op+if lvlZ op=4 then 1 else 0) a.op (txtE d a)
       simp only[List.length_append,List.length_cons,List.length_nil]
       omega
    ·obtain⟨A2,m2,c2,_,hx2⟩:=hget 1 a2 rfl
     have h2:=ih a2 _ hx2 (hall a2 (by simp))
     simp only[List.map_cons,List.sum_cons]
     split
     ·have:=opnd_len (lvlZ op) a.op (txtE d a)
      rw[List.length_append]
      omega
     ·split
      ·rename_i h21
       have hr:fieldsR op n s name src=(freeB name&&freeB src&&decide (n=0)&&noS s):=by
        unfold fieldsR
        rw[if_neg (by omega),if_neg (by omega),if_neg (by omega),if_neg (by omega),if_neg (by omega),if_pos]
        simp[rowsB];omega
       rw[hr] at hf
       simp only[Bool.and_eq_true] at hf
       have n1:=named_len hf.1.1.1
       have n2:=named_len hf.1.1.2
       have hw:=whereT_len a.op a.n (txtE d a)
       unfold rowsT
       split<;>simp only[List.length_append,List.length_cons,List.length_nil]<;>omega
      ·have h3:=opnd_len (lvlZ op+if lvlZ op=4 then 1 else 0) a.op (txtE d a)
       have h4:=opnd_len (lvlZ op+1) a2.op (txtE d a2)
       simp only[List.length_append,List.length_cons,List.length_nil]
       omega
theorem right_len {F:Nat→Prop} {w:World} {d:Nat} {e:Ex} {row:List Value} (hx:ExAt F d w row e) (hd:d≤900) (h:rightE d e=true):(txtE d e).length≤1000000000:=by
 unfold rightE at h
 simp only[Bool.and_eq_true] at h
 obtain⟨h1,h2⟩:=h
 obtain⟨c1,c2,_⟩:=sizeE_cts d 0 e (by omega) hd
 simp only[smallZ,Bool.and_eq_true,decide_eq_true_eq] at h1
 have h3:=txt_len d e row hx h2
 omega
theorem Six.below {w w':World} {b o:Nat} {e:Ex} {A:Option Addr} {m c:Nat} (h:Six w b o e A m c) (hb:b<w.heap.size) (hw:Below w.heap.size w w'):Six w' b o e A m c:=by
 obtain⟨h0,h1,h2,h3,h4,h5⟩:=h
 exact⟨(hw.cell (p:=⟨b,o,none⟩) hb).trans h0,(hw.cell (p:=⟨b,o+1,none⟩) hb).trans h1,(hw.cell (p:=⟨b,o+2,none⟩) hb).trans h2,(hw.cell (p:=⟨b,o+3,none⟩) hb).trans h3,(hw.cell (p:=⟨b,o+4,none⟩) hb).trans h4,(hw.cell (p:=⟨b,o+5,none⟩) hb).trans h5⟩
end Go.Proofs.YtdgapmnojmhllaaGreatDoor
namespace Go.Afx
open Go.RowKit
def lowD (n:Nat):List Nat:=if _h:n=0 then [] else (n % 10)::lowD (n / 10)
termination_by n
decreasing_by omega
theorem lowD_zero:lowD 0=[]:=by rw[lowD];rfl
theorem lowD_pos {n:Nat} (h:0<n):lowD n=(n % 10)::lowD (n / 10):=by
 rw[lowD,dif_neg (by omega)]
theorem lowD_len:∀ (k n:Nat),n<10 ^ k→(lowD n).length≤k:=by
  intro k
  induction k with
  | zero => intro n h;obtain rfl:n=0:=by simpa using h
            rw[lowD_zero];exact Nat.le_refl _
  | succ k ih =>
    intro n h
    rcases Nat.eq_zero_or_pos n with rfl|hp
    · rw[lowD_zero];exact Nat.zero_le _
    · rw[lowD_pos hp,List.length_cons]
      have:=ih (n / 10) (by rw[Nat.pow_succ] at h;omega)
      omega
theorem lowD_last:∀ (k n:Nat),n<10 ^ k→0<n→∃ x,(lowD n).getLast?=some x∧x≠0:=by
 intro k
 induction k with
 | zero=>intro n h h0;simp at h;omega
 | succ k ih =>
  intro n h h0
  rw[lowD_pos h0]
  rcases Nat.eq_zero_or_pos (n / 10) with hz|hp
  ·rw[hz,lowD_zero]
   exact⟨n % 10,rfl,by omega⟩
  ·obtain⟨x,hx,h1⟩:=ih (n / 10) (by rw[Nat.pow_succ] at h;omega) hp
   refine⟨x,?_,h1⟩
   rw[List.getLast?_cons,hx]
   rfl
theorem lowD_digit:∀ (k n:Nat),n<10 ^ k→∀ x∈lowD n,x<10:=by
  intro k
  induction k with
  | zero => intro n h;obtain rfl:n=0:=by simpa using h
            rw[lowD_zero];simp
  | succ k ih =>
    intro n h x hx
    rcases Nat.eq_zero_or_pos n with rfl|hp
    · rw[lowD_zero] at hx;simp at hx
    · rw[lowD_pos hp,List.mem_cons] at hx
      rcases hx with rfl|hx
      · omega
      · exact ih (n / 10) (by rw[Nat.pow_succ] at h;omega) x hx
end Go.Afx
namespace Go.Proofs.YtdgapmnojmhllaaGreatDoor
open Go.RowKit Go.Afx
theorem trim_any (A:Option Addr) (n c:Nat) (w:World) (hn:n≤1000) (h:n=0∨∃ b x,A=some ⟨b,0,none⟩∧0<n∧w.cell? ⟨b,n-1,none⟩=some (.int .i64 x)∧x≠0∧b<w.heap.size) :
  Calls Tryz.prog 149 #[.slice A n c] w fun e w'=>e=.returned (.slice A n c)∧w=w':=by
 rcases h with rfl|⟨b,x,rfl,h0,hc,hx,hb⟩
 ·go_enter Tryz.func149,Tryz.ntmps149
  go_wp2
  refine wp_loop_rounds 1 ?_
  rw[rounds_succ]
  go_wp2
  go_ret
  exact⟨rfl,rfl⟩
 ·have q:(x==0)=false:=by simpa using hx
  have hd:decide ((0:Int)<(n:Int))=true:=by simp;omega
  have e1:((n:Int)-1).toNat=n-1:=by omega
  have i1:(0:Int)≤(n:Int)-1:=by omega
  have i2:(n:Int)-1<(n:Int):=by omega
  go_enter Tryz.func149,Tryz.ntmps149
  go_wp2
  refine wp_loop_rounds 1 ?_
  rw[rounds_succ]
  go_wp2
  go_ret
  exact⟨rfl,rfl⟩
theorem refSign_any (A:Option Addr) (n c:Nat) (w:World) (hn:n≤1000) (h:n=0∨∃ b x,A=some ⟨b,0,none⟩∧0<n∧w.cell? ⟨b,n-1,none⟩=some (.int .i64 x)∧x≠0∧b<w.heap.size) :
  Calls Tryz.prog 107 #[.bool false,.slice A n c] w fun e w'=>e=.returned (.agg #[.bool false,.slice A n c])∧Below w.heap.size w w':=by
 obtain⟨w1,Hw1⟩:∃ w1,Hid (w1=w.alloc (.cells #[.bool false,.slice none 0 0] 174)):=⟨_,rfl⟩
 have hb1:Below w.heap.size w w1:=by rw[Hw1.out];exact(Below.refl _ _).alloc (Nat.le_refl _) _
 have Ht:=Lhd (trim_any A n c w1 hn (by
  rcases h with rfl|⟨b,x,hA,h0,hc,hx,hb⟩
  ·exact .inl rfl
  ·exact .inr ⟨b,x,hA,h0,(hb1.cell (p:=⟨b,n-1,none⟩) hb).trans hc,hx,Nat.lt_of_lt_of_le hb hb1.size⟩))
 rw[Hw1.out] at Ht
 clear h hb1 Hw1 w1
 go_enter Tryz.func107,Tryz.ntmps107
 go_wp2_with (go_at_call 149;refine Ht.out.mono ?_;rintro e w2 ⟨rfl,rfl⟩)
 refine bodyPost_ret (v:=.agg #[.bool false,.slice A n c]) (by simp[results,Tryz.results107,go_sem]) rfl ⟨rfl,?_⟩
 exact(Below.refl _ _).alloc (Nat.le_refl _) _
theorem tyIntW:ElemTy Tryz.prog 26 3 1 8 (.int .i64 0):=⟨Tryz.underlying26,by kernel_rfl,rfl,by decide⟩
def digC (l:List Nat):List (List Value):=l.map fun (x:Nat)=>[Value.int .i64 (x:Int)]
theorem digC_len {l:List Nat}:∀ r∈digC l,r.length=1:=by
 intro r hr
 obtain⟨x,_,rfl⟩:=List.mem_map.1 hr
 rfl
theorem digC_flat (l:List Nat):(digC l).flatten=l.map fun (x:Nat)=>Value.int .i64 (x:Int):=by
 unfold digC
 induction l with
 | nil=>rfl
 | cons a r ih=>rw[List.map_cons,List.flatten_cons,ih];rfl
theorem digC_app (l:List Nat) (m:Nat):digC (l++[m % 10])=digC l++[[.int .i64 ((m:Int) % 10)]]:=by
 unfold digC
 rw[List.map_append]
 rfl
theorem numOf_any (N:Nat) (hN:N<10 ^ 19) (w:World):Calls Tryz.prog 147 #[.int .i64 N] w fun e w'=>∃ A c,e=.returned (.agg #[.bool false,.slice A (lowD N).length c])∧w'.ownsRow (w.heap.size+1) 3 1 (.slice A (lowD N).length c) (lowD N).length (digC (lowD N)).flatten∧Below w.heap.size w w':=by
 have hN2:N<10000000000000000000:=hN
 have Hlen:=Lhd (lowD_len 19 N hN)
 have hd0:decide ((N:Int)<0)=false:=by simp
 go_enter Tryz.func147,Tryz.ntmps147
 go_wp2
 go_loopw [3,4] (fun u v wr=>∃ (m:Nat) (done:List Nat) (A:Option Addr) (c:Nat),m≤N∧u=.int .u64 m∧Hid (lowD N=done++lowD m)∧v=.slice A done.length c∧Hid (wr.ownsRow (w.heap.size+1) 3 1 (.slice A done.length c) done.length (digC done).flatten)∧Hid (Below (w.heap.size+1) (w.alloc (.cells #[.bool false,.slice none 0 0] 174)) wr)) (fun u _ _=>(intOf u).toNat)
 case atStart=>exact⟨N,[],none,0,Nat.le_refl _,by first|rfl|go_num,Lhd rfl,rfl,Lhd (World.ownsRow_nil _ _ _ _),Lhd (Below.refl _ _)⟩
 case round =>
  obtain⟨m,done,A,c,hm,rfl,HL,rfl,HO,HB⟩:=hrel
  have hsz:=HB.out.size
  simp at hsz
  have hdl:done.length≤19:=by have:=Hlen.out;rw[HL.out,List.length_append] at this;omega
  rcases Nat.eq_zero_or_pos m with rfl|hp
  ·have hdn:done=lowD N:=by rw[HL.out,lowD_zero,List.append_nil]
   have hs:done.length=0∨∃ b x,A=some ⟨b,0,none⟩∧0<done.length∧wr.cell? ⟨b,done.length-1,none⟩=some (.int .i64 x)∧x≠0∧b<wr.heap.size:=by
    rcases Nat.eq_zero_or_pos done.length with hz|hz
    ·exact .inl hz
    ·rcases HO.out.2 with ⟨_,h⟩|⟨g,cap,cur,hv,_⟩
     ·exact .inl h
     ·injection hv with e1 e2 e3
      subst e1 e3
      have hN0:0<N:=by
       rcases Nat.eq_zero_or_pos N with h|h
       ·rw[hdn,h,lowD_zero] at hz;simp at hz
       ·exact h
      obtain⟨x,hx,hx0⟩:=lowD_last 19 N hN hN0
      refine .inr ⟨g,(x:Int),rfl,hz,?_,by omega,(HO.out.lt g rfl).2⟩
      rw[World.ownsRow.cellAt HO.out (done.length-1) (by omega),digC_flat,List.getElem?_map]
      rw[← hdn,List.getLast?_eq_getElem?] at hx
      rw[hx]
      rfl
   have Hsg:=Lhd (refSign_any A done.length c wr (by omega) hs)
   have hk:IsBlk wr w.heap.size 174 #[.bool false,.slice none 0 0]:=(IsBlk.laid w _ _).as_was (HB.out.block w.heap.size (by omega))
   have Hk:=Lhd hk
   have HN:=Lhd hN
   have Hdn:=Lhd hdn
   clear hs hsz hk hN hN2 hdn
   go_wp2_with (go_at_call 107;refine Hsg.out.mono ?_)
   rintro e w2 ⟨rfl,hb2⟩
   have hk2:=Hk.out.as_was (hb2.block _ Hk.out.lt)
   have z0:=hk2.cell 0
   have z1:=hk2.cell 1
   have f0:=hk2.frozen 0
   have f1:=hk2.frozen 1
   have zl:=hk2.lt
   simp at z0 z1
   have Hb2:=Lhd hb2
   have Hk2:=Lhd hk2
   clear hb2 hk2
   go_wp2
   refine bodyPost_ret (v:=.agg #[.bool false,.slice A done.length c]) (by simp[results,Tryz.results147,go_sem,z0,z1]) rfl ⟨A,c,by rw[← Hdn.out],?_,?_⟩
   ·rw[← Hdn.out]
    refine own_but (own_below HO.out Hb2.out) (((But.refl (fun i=>i=w.heap.size) w2).setCell (p:=⟨w.heap.size,0,none⟩) (.inl rfl) _).setCell (p:=⟨w.heap.size,1,none⟩) (.inl rfl) _) (fun i hi e=>?_)
    subst e
    have:=(HO.out.lt _ hi).1
    omega
   ·have h1:Below w.heap.size w wr:=((Below.refl _ _).alloc (Nat.le_refl _) _).trans (HB.out.mono (by simp))
    exact((h1.trans (Hb2.out.mono h1.size)).setCell (p:=⟨w.heap.size,0,none⟩) (Nat.le_refl _) _).setCell (p:=⟨w.heap.size,1,none⟩) (Nat.le_refl _) _
  ·have hnew:RowsAt (wr.alloc (.cells #[.int .i64 ((m:Int) % 10)] 3)) 1 (some ⟨wr.heap.size,0,none⟩) 1 1 [[.int .i64 ((m:Int) % 10)]]:=RowsAt.lit' _ _ 1 (by rfl) rfl (by simp) rfl (by unfold maxLen;omega)
   have hown:=own_below HO.out ((Below.refl wr.heap.size wr).alloc (Nat.le_refl _) (.cells #[.int .i64 ((m:Int) % 10)] 3))
   have e0:decide ((0:Int)<(m:Int))=true:=by simp;omega
   go_wp2_with (at_builtin;refine wpList_app (s:=.tmp 13) (x:=.tmp 17) (xs:=digC done) rfl rfl tyIntW rfl hown rfl hnew (by intro r hr;simp at hr;subst hr;rfl) (by intro r hr u hu;simp at hr;subst hr;simp at hu;subst hu;rfl) ?_ ?_ ?_ ?_;(unfold maxLen;omega);omega;(simp;omega);intro A3 c3 w3 hown3 hbut3 hf3)
   go_roundw
   case rel =>
    refine⟨m / 10,done++[m % 10],A3,c3,by omega,by go_num,Lhd (by rw[HL.out,lowD_pos hp];simp),by simp,Lhd ?_,Lhd ?_⟩
    ·rw[digC_app,List.length_append]
     exact hown3
    ·refine HB.out.trans (((Below.refl _ _).alloc hsz _).trans (hbut3.below' (by simp;omega) fun i hi=>?_))
     cases A with
     | none=>cases hi
     | some a=>exact(HO.out.lt i hi).1
   case measure=>simp[intOf];omega
end Go.Proofs.YtdgapmnojmhllaaGreatDoor
