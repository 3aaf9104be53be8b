/- Parts of this proof, one behind the other: PrtM, PrtN, PrtO, PrtU, PrtA1, PrsP. -/
import Derived.Test.YtjjfkhbajidmdaaGreatDoorPb16
import Derived.Test.YtjjfkhbajidmdaaGreatDoorPb4
import Derived.Test.YtjjfkhbajidmdaaGreatDoorPb2
import Derived.Test.YtjjfkhbajidmdaaGreatDoorPb14
set_option maxRecDepth 1000000
set_option maxHeartbeats 40000000
namespace Go.Proofs.YtjjfkhbajidmdaaGreatDoor
open Go.RowKit Go.Afx
def ui (d:Nat) (e:Ex):Bool:=mO (iZ d 0 e)&&aA d e
theorem aaE {a b:Bool} (h:a=b):Ending.returned (.bool a)=.returned (.bool b):=by rw[h]
theorem Tu (F:Nat→Prop) (d:Nat) (e:Ex) (row:List Value) (w:World) (h:aC F d w row e) (hd:d≤10000) :
  Calls Tryz.prog 27 #[.agg row.toArray] w fun x w'=>x=.returned (.bool (ui d e))∧Below w.heap.size w w':=by
 have hq:ui d e=(mO (iZ d 0 e)&&aA d e):=rfl
 obtain⟨A,m,c,hrow⟩:=wP h
 obtain⟨w1,Hw1⟩:∃ w1,Hid (w1=w.alloc (.cells row.toArray 55)):=⟨_,rfl⟩
 have hb1:Below w.heap.size w w1:=by rw[Hw1.out];exact(Below.refl _ _).alloc (Nat.le_refl _) _
 have hk1:af w1 w.heap.size 55 row.toArray:=by rw[Hw1.out];exact af.laid _ _ _
 have Hx:=ae (fun W (hW:Below w1.heap.size w1 W)=>(show af W w.heap.size 55 row.toArray from hk1.ag (hW.block _ hk1.lt)))
 have Hs:=ae (KH F d e row 0 w1 (h.below hb1) (by omega) (by omega))
 have Hb:=ae (fun W (hW:Below w.heap.size w W)=>IW F d e row W (h.below hW))
 have Hb1:=ae hb1
 subst hrow
 generalize iZ d 0 e=s at *
 generalize aA d e=qb at *
 generalize ui d e=fin at *
 have bn:=ae hq
 obtain⟨s1,s2⟩:=s
 clear hq h hb1 hk1
 go_enter Tryz.func27,Tryz.ntmps27
 go_upto_region 1 with (fail)
 rw[← Hw1.out]
 obtain⟨x0,x1,x2,x3,x4,x5,xl⟩:=lX (Hx.out _ (Below.refl _ _))
 go_upto_region 2 with (go_at_call 60;refine Hs.out.mono ?_;rintro x w2 ⟨rfl,hb2⟩)
 have hk:af (w2.alloc (.cells #[.int .i64 s1,.int .i64 s2] 87)) w2.heap.size 87 #[.int .i64 s1,.int .i64 s2]:=af.laid _ _ _
 have hb3:Below w1.heap.size w1 (w2.alloc (.cells #[.int .i64 s1,.int .i64 s2] 87)):=hb2.alloc hb2.size _
 generalize w2.alloc (.cells #[.int .i64 s1,.int .i64 s2] 87)=w3 at *
 have Hs3:=ae (KI _ s1 s2 w3 hk)
 have hbb:=Hb1.out.trans (hb3.mono Hb1.out.size)
 have Hb3:=ae (And.intro (Hb.out _ hbb) hbb)
 clear x0 x1 x2 x3 x4 x5 xl
 obtain⟨x0,x1,x2,x3,x4,x5,xl⟩:=lX (Hx.out _ hb3)
 have hkl:=hk.lt
 clear hk hb2 hb3 hbb
 generalize mO (s1,s2)=qs at *
 cases qs
 ·go_wp2_with (go_at_call 35;refine Hs3.out.mono ?_;rintro x w' ⟨rfl,rfl⟩)
  go_ret
  exact⟨aaE (by rw[bn.out];simp),Hb3.out.2⟩
 ·go_wp2_with (first|(go_at_call 35;refine Hs3.out.mono ?_;rintro x w' ⟨rfl,rfl⟩)|(go_at_call 61;refine Hb3.out.1.mono ?_;rintro x w4 ⟨rfl,hb4⟩))
  go_ret
  exact⟨aaE (by rw[bn.out];simp),Hb3.out.2.trans (hb4.mono Hb3.out.2.size)⟩
theorem len_any (g:Nat) (t:List UInt8) (br:Bool) (w:World) (h:bz g t br w):Calls Tryz.prog 30 #[.pointer (some ⟨g,0,none⟩)] w fun e w'=>e=.returned (.int .i64 t.length)∧w=w':=by
 obtain⟨p,A,c,hk,_⟩:∃ p A c,af w g 83 #[.pointer p,.slice A t.length c,.bool br]∧True:=by
  rcases h with ⟨A,c,hk,_⟩|⟨A,c,hk,_⟩<;>exact⟨_,_,_,hk,trivial⟩
 obtain⟨c0,c1,c2,hlt,_⟩:=FN hk
 clear h hk
 go_enter Tryz.func30,Tryz.ntmps30
 go_wp2
 go_ret
 exact⟨rfl,rfl⟩
theorem IX (g:Nat) (t:List UInt8) (br:Bool) (w:World) (h:bz g t br w) (h0:t≠[]):Calls Tryz.prog 31 #[.pointer (some ⟨g,0,none⟩)] w fun e w'=>e=.returned (.string ⟨t.toArray⟩)∧Below g w w':=by
 obtain⟨p,A,c,hk,ho⟩:∃ p A c,af w g 83 #[.pointer p,.slice A t.length c,.bool br]∧w.ownsRow (g+1) 5 1 (.slice A t.length c) t.length (Lib.byteCells t):=by
  rcases h with ⟨A,c,hk,ho⟩|⟨A,c,hk,ho⟩<;>exact⟨_,_,_,hk,ho⟩
 have hl0:t.length≠0:=by simpa using h0
 obtain⟨k,cap,cur,hA,hbk,hkk,hnc,hcm,hcs,htake⟩:∃ k cap cur,(Value.slice A t.length c)=.slice (some ⟨k,0,none⟩) t.length cap∧g+1≤k∧w.heap[k]?=some (.cells cur 5 (0,0))∧t.length≤cap∧cap≤maxLen∧cur.size=cap*1∧cur.toList.take (t.length*1)=Lib.byteCells t:=by
  rcases ho.2 with ⟨_,hz⟩|⟨k,cap,cur,hv,r⟩
  ·exact absurd hz hl0
  ·exact⟨k,cap,cur,hv,r⟩
 injection hA with e1 e2 e3
 subst e1 e3
 have hkd:af w.drew g 83 #[.pointer p,.slice (some ⟨k,0,none⟩) t.length c,.bool br]:=hk
 obtain⟨c0,c1,c2,hlt,_⟩:=FN hkd
 have hSD:∀ ts ty,(Builtin.unsafeSliceData_ ts ty #[.slice (some ⟨k,0,none⟩) t.length c]).run Tryz.prog w.drew=.ok (.pointer (some ⟨k,0,none⟩)) w.drew:=fun ts ty=>Lib.run_unsafeSliceData_row _ _ _ _ _ _ (by omega)
 have hUS:(Builtin.unsafeString_ #[120,3] 9 #[.pointer (some ⟨k,0,none⟩),.int .i64 t.length]).run Tryz.prog w.drew=.ok (.string ⟨t.toArray⟩) (w.drew.freeze ⟨k,0,none⟩ t.length):=by
  refine Lib.run_unsafeString_row w.drew 120 3 9 5 Tryz.underlying120 (by kernel_rfl) k cur.size (by have hg':w.drew.heap[k]?=some (.cells cur 5 (0,0)):=hkk;simp[World.shape?,hg']) t h0 (by omega) (by unfold maxLen at hcm;omega) ?_
  intro j x hx
  have:=ho.cells (g:=k) rfl j (.int .u8 x.toNat) (by simp[Lib.byteCells,hx])
  exact this
 clear h hk hkd ho htake hkk
 go_enter Tryz.func31,Tryz.ntmps31
 go_wp2
 go_region
 all_goals (go_wp2;go_ret;exact⟨rfl,Lib.below_freeze (Below.drew (Below.refl g w)) (p:=⟨k,0,none⟩) (show g≤k by omega) _⟩)
theorem adL {n:Nat} (h:0<n):Du n≠[]:=by rw[wK h];simp
theorem adM {s:ByteArray} (h:aJ s=true):s.data.toList≠[]:=by
 intro e
 unfold aJ dV at h
 rw[e] at h
 simp at h
theorem ahd {d:Nat} {e:Ex} (h:aA d e=true):aY d e≠[]:=by
 obtain⟨o1,o2⟩:=rQ h
 cases d with
 | zero=>cases h
 | succ d =>
  obtain⟨op,n,s,name,src,args⟩:=e
  have o1:1≤op:=o1
  have o2:op≤24:=o2
  obtain⟨ha,hf,_⟩:=xM h
  rw[MB]
  by_cases h5:op≤5
  ·have h5:op=1∨op=2∨op=3∨op=4∨op=5:=by omega
   rcases h5 with rfl|rfl|rfl|rfl|rfl
   ·have e:bT 1 n s name src=(decide (0≤n)&&noS s&&noS name&&noS src):=rfl
    rw[e] at hf
    simp only[Bool.and_eq_true,decide_eq_true_eq] at hf
    rw[if_pos rfl]
    unfold dU
    split
    ·simp
    ·exact adL (by have:=hf.1.1.1;omega)
   ·simp[iH]
   ·simp only[jR,gz]
    split<;>simp_all
    split<;>simp
   ·have e:bT 4 n s name src=(aJ name&&decide (n=0)&&noS s&&noS src):=rfl
    rw[e] at hf
    simp only[Bool.and_eq_true] at hf
    simpa using adM hf.1.1.1
   ·simp
  ·rw [if_neg (by omega),if_neg (by omega),if_neg (by omega),if_neg (by omega),if_neg (by omega)]
   rcases args with _|⟨a,r⟩
   ·exfalso
    rcases Qc ha (by omega) o2 with ⟨h1,_⟩|⟨h1,_⟩<;>simp at h1
   ·simp only
    split
    ·have:jQ op≠[]:=by
      rename_i h
      rcases h with rfl|rfl<;>decide
     simp[this]
    ·split<;>simp
theorem aaF (F:Nat→Prop) (d:Nat) (e:Ex) (row:List Value) (x g:Nat) (t:List UInt8) (br:Bool) (w:World) (hx:aC F d w row e) (hb:aA d e=true) (hF:∀ k,F k→k<g) (hk:af w x 55 row.toArray) (h:bz g t br w) (hm:dZ w) (hg:0<g) (hlen:t.length+(aY d e).length≤1000000000) :
  Calls Tryz.prog 28 #[.pointer (some ⟨g,0,none⟩),.pointer (some ⟨x,0,none⟩)] w fun e' w'=>e'=.returned (.tuple #[])∧bz g (t++aY d e) (br||zH d e) w'∧Wrote g w w':=by
 obtain⟨A,m,c,hrow⟩:=wP hx
 have Hc:=ae (wQ d F e row g t br w hx hb hF h hm hg hlen)
 subst hrow
 obtain⟨x0,x1,x2,x3,x4,x5,xl⟩:=lX hk
 clear hx hb hF hk h hm hg hlen
 go_enter Tryz.func28,Tryz.ntmps28
 go_wp2_with (go_at_call 29;refine Hc.out.mono ?_)
 rintro e' w2 ⟨rfl,h1,h2⟩
 have H:=ae (And.intro h1 h2)
 clear h1 h2
 go_wp2
 go_end0
 exact⟨rfl,H.out.1,H.out.2⟩
theorem IY (f:Value) (w:World):Calls Tryz.prog 15 #[.bool false,f] w fun e w'=>e=.returned (.tuple #[.string ⟨#[]⟩,.int .i64 1])∧w=w':=by
 go_enter Tryz.func15,Tryz.ntmps15
 go_wp2
 go_ret2
 exact⟨rfl,rfl⟩
def gW (br:Bool) (t:List UInt8):List UInt8×Int:=if br then ([],1) else if 8000<t.length then ([],5) else (t,0)
theorem aaG (w:World):bz w.heap.size [] false (w.alloc (.cells #[.pointer none,.slice none 0 0,.bool false] 83)):=.inl ⟨none,0,af.laid _ _ _,World.ownsRow_nil _ _ _ _⟩
theorem Qd (x:Nat) (t:List UInt8) (br:Bool) (w:World) (ht:t≠[])
  (hc:∀ W,Below w.heap.size w W→bz w.heap.size [] false W→Calls Tryz.prog 28 #[.pointer (some ⟨w.heap.size,0,none⟩),.pointer (some ⟨x,0,none⟩)] W fun e' w'=>e'=.returned (.tuple #[])∧bz w.heap.size t br w'∧Wrote w.heap.size W w') :
  Calls Tryz.prog 15 #[.bool true,.func (.func 28) #[] #[.pointer (some ⟨x,0,none⟩)]] w fun e w'=>e=.returned (.tuple #[.string ⟨(gW br t).1.toArray⟩,.int .i64 (gW br t).2])∧Below w.heap.size w w':=by
 have hb1:Below w.heap.size w (w.alloc (.cells #[.pointer none,.slice none 0 0,.bool false] 83)):=(Below.refl _ _).alloc (Nat.le_refl _) _
 have Hc:=ae (hc _ hb1 (aaG w))
 have Hb1:=ae hb1
 have Ht:=ae ht
 clear hc hb1 ht
 go_enter Tryz.func15,Tryz.ntmps15
 go_wp2_with (go_at_call 28;refine Hc.out.mono ?_)
 rintro e' w2 ⟨rfl,h2,hr2⟩
 obtain⟨b1,_,b3⟩:=h2.brk
 have gm:=ae (And.intro h2 (Hb1.out.trans hr2.1))
 have VD:=ae (len_any _ _ _ _ h2)
 have J6:=ae (IX _ _ _ _ h2 Ht.out)
 clear h2 hr2
 cases br
 ·rcases Classical.em (8000<t.length) with hl|hl
  ·have hd:decide ((8000:Int)<(t.length:Int))=true:=by simp;omega
   have e:gW false t=([],5):=by unfold gW;rw[if_neg (by decide),if_pos hl]
   have He:=ae e
   clear hl e
   go_wp2_with (go_at_call 30;refine VD.out.mono ?_;rintro e' w3 ⟨rfl,rfl⟩)
   go_ret2
   rw[He.out]
   exact⟨rfl,gm.out.2⟩
  ·have hd:decide ((8000:Int)<(t.length:Int))=false:=by simp;omega
   have e:gW false t=(t,0):=by unfold gW;rw[if_neg (by decide),if_neg hl]
   have He:=ae e
   clear hl e
   go_wp2_with (first|(go_at_call 30;refine VD.out.mono ?_;rintro e' w3 ⟨rfl,rfl⟩)|(go_at_call 31;refine J6.out.mono ?_;rintro e' w4 ⟨rfl,hb4⟩))
   go_ret2
   rw[He.out]
   exact⟨rfl,gm.out.2.trans hb4⟩
 ·have e:gW true t=([],1):=by unfold gW;rw[if_pos rfl]
  have He:=ae e
  clear e
  go_wp2
  go_ret2
  rw[He.out]
  exact⟨rfl,gm.out.2⟩
def KJ (d:Nat) (e:Ex):List UInt8×Int:=if ui d e then gW (zH d e) (aY d e) else ([],1)
theorem zk (F:Nat→Prop) (d:Nat) (e:Ex) (row:List Value) (w:World) (h:aC F d w row e) (hd:d≤10000) (hF:∀ k,F k→k<w.heap.size) (hm:dZ w) (hlen:ui d e=true→(aY d e).length≤1000000000) :
  Calls Tryz.prog 14 #[.agg row.toArray] w fun x w'=>x=.returned (.tuple #[.string ⟨(KJ d e).1.toArray⟩,.int .i64 (KJ d e).2])∧Below w.heap.size w w':=by
 obtain⟨A,m,c,hrow⟩:=wP h
 obtain⟨w1,Hw1⟩:∃ w1,Hid (w1=w.alloc (.cells row.toArray 55)):=⟨_,rfl⟩
 have hb1:Below w.heap.size w w1:=by rw[Hw1.out];exact(Below.refl _ _).alloc (Nat.le_refl _) _
 have hk1:af w1 w.heap.size 55 row.toArray:=by rw[Hw1.out];exact af.laid _ _ _
 have Hri:=ae (Tu F d e row w1 (h.below hb1) hd)
 have Tv:=ae (fun W (hW:Below w1.heap.size w1 W) (hr:ui d e=true)=>Qd w.heap.size (aY d e) (zH d e) W (ahd (by unfold ui at hr;simp only[Bool.and_eq_true] at hr;exact hr.2)) (fun W2 h2 hwt=>by
  have hbe:aA d e=true:=by unfold ui at hr;simp only[Bool.and_eq_true] at hr;exact hr.2
  have hall:Below w.heap.size w W2:=hb1.trans ((hW.mono hb1.size).trans (h2.mono (Nat.le_trans hb1.size hW.size)))
  have hk:=(hk1.ag (hW.block _ hk1.lt)).ag (h2.block _ (Nat.lt_of_lt_of_le hk1.lt hW.size))
  have hmg:=Nat.lt_of_lt_of_le hm.lt (Nat.le_trans hb1.size hW.size)
  have hres:=aaF F d e row w.heap.size W.heap.size [] false W2 (h.below hall) hbe (fun k hk=>Nat.lt_of_lt_of_le (hF k hk) (Nat.le_trans hb1.size hW.size)) hk hwt (hm.below hm.lt hall) hmg (by simpa using hlen hr)
  rw[List.nil_append,Bool.false_or] at hres
  exact hres))
 have Hb1:=ae hb1
 have Hex:=ae (show KJ d e=if ui d e then gW (zH d e) (aY d e) else ([],1) from rfl)
 generalize KJ d e=fin at *
 obtain⟨x0,x1,x2,x3,x4,x5,xl⟩:=lX (show af w1 w.heap.size 55 #[.int .i64 e.op,.int .i64 e.n,.string e.s,.string e.name,.string e.src,.slice A m c] from by rw[hrow] at hk1;exact hk1)
 subst hrow
 have hmf:∀ (fn:Fn) (first cap:Array Value) (w:World),(Instr.makeFunc fn first cap).run Tryz.prog w=.ok (.func fn first cap) w:=fun _ _ _ _=>rfl
 clear h hb1 hk1 hF hm hlen hd
 generalize ui d e=ri at *
 cases ri
 ·clear Tv
  go_enter Tryz.func14,Tryz.ntmps14
  go_upto_region 1 with (fail)
  rw[← Hw1.out]
  go_wp2_with (first|(go_at_call 27;refine Hri.out.mono ?_;rintro x w2 ⟨rfl,hb2⟩)|(go_at_call 15;refine(IY _ _).mono ?_;rintro x w3 ⟨rfl,rfl⟩))
  go_ret2
  rw[Hex.out]
  exact⟨rfl,Hb1.out.trans (hb2.mono Hb1.out.size)⟩
 ·have Hy:=ae (fun W hW=>Tv.out W hW rfl)
  clear Tv
  go_enter Tryz.func14,Tryz.ntmps14
  go_upto_region 1 with (fail)
  rw[← Hw1.out]
  go_wp2_with (first|(go_at_call 27;refine Hri.out.mono ?_;rintro x w2 ⟨rfl,hb2⟩)|(go_at_call 15;refine(Hy.out _ hb2).mono ?_;rintro x w3 ⟨rfl,hb3⟩))
  go_ret2
  rw[Hex.out]
  exact⟨rfl,Hb1.out.trans ((hb2.mono Hb1.out.size).trans (hb3.mono (Nat.le_trans Hb1.out.size hb2.size)))⟩
theorem Ii {F:Nat→Prop} {w:World}:∀ (d:Nat) (e:Ex) (row:List Value),aC F d w row e→aA d e=true→(aY d e).length≤500*iI d e:=by
 intro d
 induction d with
 | zero=>intro e row hx h;cases h
 | succ d ih =>
  intro e row hx h
  obtain⟨o1,o2⟩:=rQ h
  obtain⟨op,n,s,name,src,args⟩:=e
  have o1:1≤op:=o1
  have o2:op≤24:=o2
  obtain⟨ha,hf,hall⟩:=xM h
  have hc:iI (d+1) (.mk op n s name src args)=1+(args.map (iI d)).sum:=rfl
  have hsg:=aap o1 o2
  rw[MB,hc]
  by_cases h5:op≤5
  ·suffices hs:(if op=1 then dU n else if op=2 then iH s else if op=3 then (if n=1 then jR else gz) else if op=4 then name.data.toList else if op=5 then name.data.toList++[46]++s.data.toList else []).length≤500 by
    have h5:op=1∨op=2∨op=3∨op=4∨op=5:=by omega
    rcases h5 with rfl|rfl|rfl|rfl|rfl<;>exact Nat.le_trans hs (by omega)
   have h5:op=1∨op=2∨op=3∨op=4∨op=5:=by omega
   rcases h5 with rfl|rfl|rfl|rfl|rfl
   ·show (dU n).length≤500
    unfold dU
    have h1:=IK (show okI n from hx.open_.2.1)
    unfold dU at h1
    omega
   ·have e:bT 2 n s name src=(decide (s.size≤200)&&decide (n=0)&&noS name&&noS src):=rfl
    rw[e] at hf
    simp only[Bool.and_eq_true,decide_eq_true_eq] at hf
    show (iH s).length≤500
    unfold iH
    have h1:=Vx s.data.toList
    have h2:s.data.toList.length=s.size:=rfl
    have h3:=hf.1.1.1
    simp only[List.length_append,List.length_cons,List.length_nil]
    omega
   ·show (if n=1 then jR else gz).length≤500
    split<;>decide
   ·have e:bT 4 n s name src=(aJ name&&decide (n=0)&&noS s&&noS src):=rfl
    rw[e] at hf
    simp only[Bool.and_eq_true] at hf
    have:=iw hf.1.1.1
    show name.data.toList.length≤500
    omega
   ·have e:bT 5 n s name src=(aJ name&&aJ s&&decide (n=0)&&noS src):=rfl
    rw[e] at hf
    simp only[Bool.and_eq_true] at hf
    have h1:=iw hf.1.1.1
    have h2:=iw hf.1.1.2
    show (name.data.toList++[46]++s.data.toList).length≤500
    simp only[List.length_append,List.length_cons,List.length_nil]
    omega
  ·rw [if_neg (by omega),if_neg (by omega),if_neg (by omega),if_neg (by omega),if_neg (by omega)]
   obtain⟨A,c,rfl,_,_,hat⟩:=args_at hx
   rcases args with _|⟨a,r⟩
   ·simp
   ·obtain⟨b,o,_,_,_,hget⟩:=hat (by simp)
    obtain⟨A1,m1,c1,_,hx1⟩:=hget 0 a rfl
    have h1:=ih a _ hx1 (hall a (by simp))
    rcases r with _|⟨a2,r⟩
    ·simp only[List.map_cons,List.map_nil,List.sum_cons,List.sum_nil]
     split
     ·have:=wM (iM op) a.op (aY d a)
      rw[List.length_append]
      omega
     ·split
      ·rename_i h21
       have hr:bT op n s name src=(aJ name&&aJ src&&decide (n=0)&&noS s):=by
        unfold bT
        rw[if_neg (by omega),if_neg (by omega),if_neg (by omega),if_neg (by omega),if_neg (by omega),if_pos]
        simp[lM];omega
       rw[hr] at hf
       simp only[Bool.and_eq_true] at hf
       have n1:=iw hf.1.1.1
       have n2:=iw hf.1.1.2
       have hw:=zI a.op a.n (aY d a)
       unfold kJ
       split<;>simp only[List.length_append,List.length_cons,List.length_nil]<;>omega
      ·have h3:=wM (iM op+if iM op=4 then 1 else 0) a.op (aY d a)
       simp only[List.length_append,List.length_cons,List.length_nil]
       omega
    ·obtain⟨A2,m2,c2,_,hx2⟩:=hget 1 a2 rfl
     have h2:=ih a2 _ hx2 (hall a2 (by simp))
     simp only[List.map_cons,List.sum_cons]
     split
     ·have:=wM (iM op) a.op (aY d a)
      rw[List.length_append]
      omega
     ·split
      ·rename_i h21
       have hr:bT op n s name src=(aJ name&&aJ src&&decide (n=0)&&noS s):=by
        unfold bT
        rw[if_neg (by omega),if_neg (by omega),if_neg (by omega),if_neg (by omega),if_neg (by omega),if_pos]
        simp[lM];omega
       rw[hr] at hf
       simp only[Bool.and_eq_true] at hf
       have n1:=iw hf.1.1.1
       have n2:=iw hf.1.1.2
       have hw:=zI a.op a.n (aY d a)
       unfold kJ
       split<;>simp only[List.length_append,List.length_cons,List.length_nil]<;>omega
      ·have h3:=wM (iM op+if iM op=4 then 1 else 0) a.op (aY d a)
       have h4:=wM (iM op+1) a2.op (aY d a2)
       simp only[List.length_append,List.length_cons,List.length_nil]
       omega
theorem Six.below {w w':World} {b o:Nat} {e:Ex} {A:Option Addr} {m c:Nat} (h:Six w b o e A m c) (hb:b<w.heap.size) (hw:Below w.heap.size w w'):Six w' b o e A m c:=by
 obtain⟨h0,h1,h2,h3,h4,h5⟩:=h
 exact⟨(hw.cell (p:=⟨b,o,none⟩) hb).trans h0,(hw.cell (p:=⟨b,o+1,none⟩) hb).trans h1,(hw.cell (p:=⟨b,o+2,none⟩) hb).trans h2,(hw.cell (p:=⟨b,o+3,none⟩) hb).trans h3,(hw.cell (p:=⟨b,o+4,none⟩) hb).trans h4,(hw.cell (p:=⟨b,o+5,none⟩) hb).trans h5⟩
abbrev IZ:ByteArray:=⟨#[]⟩
abbrev vars (nm:ByteArray):Ex:=.mk 4 0 IZ nm IZ []
abbrev opx (op:Int) (l:List Ex):Ex:=.mk op 0 IZ IZ IZ l
abbrev pG (nm:ByteArray):List Value:=[.int .i64 4,.int .i64 0,.string IZ,.string nm,.string IZ,.slice none 0 0]
abbrev Qe (op:Int) (A:Option Addr) (n:Nat):List Value:=[.int .i64 op,.int .i64 0,.string IZ,.string IZ,.string IZ,.slice A n n]
abbrev ex1:Ex:=opx 19 [opx 11 [vars ⟨#[120]⟩,vars ⟨#[121]⟩]]
abbrev ex2:Ex:=opx 11 [opx 19 [vars ⟨#[120]⟩],vars ⟨#[121]⟩]
theorem aaH:KJ 3 ex1=([110,111,116,32,120,32,61,32,121],0):=by decide +kernel
theorem aaI:KJ 3 ex2=([40,110,111,116,32,120,41,32,61,32,121],0):=by decide +kernel
theorem adN:(aY 3 ex1).length≤1000000000:=by decide +kernel
theorem adO:(aY 3 ex2).length≤1000000000:=by decide +kernel
theorem aaJ {F:Nat→Prop} {d n c:Nat} {W:World} {A:Option Addr} {rows:List (List Value)} {es:List Ex} (hr:az W 6 A n c rows) (hF:∀ a,A=some a→0<n→F a.block) (hl:rows.length=es.length) (h:∀ (k:Nat) (r:List Value) (x:Ex),rows[k]?=some r→es[k]?=some x→aC F d W r x):aO F d W A n c es :=
 ⟨rows,hr,hF,hl,fun k r x h1 h2=>⟨(h k r x h1 h2).len,h k r x h1 h2⟩⟩
theorem Dw:okS IZ:=by unfold okS;decide +kernel
theorem MC {F:Nat→Prop} {d:Nat} {W:World} {nm:ByteArray} (h:okS nm):aC F (d+1) W (pG nm) (vars nm) :=
 ⟨(by unfold okI;decide:okI 4),(by unfold okI;decide:okI 0),Dw,h,Dw,none,0,0,rfl,ai.nil_ _ _ _ _⟩
theorem MF {F:Nat→Prop} {d:Nat} {W:World} {op:Int} {A:Option Addr} {n:Nat} {es:List Ex} (h0:0≤op) (h1:op≤100) (h:aO F d W A n n es):aC F (d+1) W (Qe op A n) (opx op es) :=
  ⟨by unfold okI;have:(opx op es).op=op:=rfl
      omega,(by unfold okI;decide:okI 0),Dw,Dw,Dw,A,n,n,rfl,h⟩
theorem VE {F:Nat→Prop} {d:Nat} {w:World} {g:Nat} (T:TypeId) {r:List Value} {e:Ex} (hg:g=w.heap.size) (hF:F g) (h:aC F d (w.alloc (.cells r.toArray T)) r e):aO F d (w.alloc (.cells r.toArray T)) (some ⟨g,0,none⟩) 1 1 [e]:=by
 have h6:=h.len
 refine aaJ (rows:=[r]) (az.nG _ _ 1 hg (by simp) (by simpa using h6) (by simp) (by unfold maxLen;omega)) (fun a ha _=>by cases ha;exact hF) rfl (fun k r x h1 h2=>?_)
 cases k with
 | zero=>simp at h1 h2;subst h1 h2;exact h
 | succ k=>simp at h1
theorem VF {F:Nat→Prop} {d:Nat} {w:World} {g:Nat} (T:TypeId) {r r2:List Value} {e e2:Ex} (hg:g=w.heap.size) (hF:F g) (h:aC F d (w.alloc (.cells (r++r2).toArray T)) r e) (h2:aC F d (w.alloc (.cells (r++r2).toArray T)) r2 e2):aO F d (w.alloc (.cells (r++r2).toArray T)) (some ⟨g,0,none⟩) 2 2 [e,e2]:=by
 have h6:=h.len
 have h62:=h2.len
 refine aaJ (rows:=[r,r2]) (az.nG _ _ 2 hg (by simp) (by simp[h6,h62]) (by simp) (by unfold maxLen;omega)) (fun a ha _=>by cases ha;exact hF) rfl (fun k q x q1 q2=>?_)
 rcases k with _|_|k
 ·simp at q1 q2;subst q1 q2;exact h
 ·simp at q1 q2;subst q1 q2;exact h2
 ·simp at q1
theorem xN (w:World) (o:Obj):Below w.heap.size w (w.alloc o):=(Below.refl _ _).alloc (Nat.le_refl _) _
theorem am8 (w:World) (hm:dZ w) (hg:0<w.heap.size) (g1 g2:Nat) (h1:g1=w.heap.size) (h2:g2=w.heap.size+1):Calls Tryz.prog 14 #[.agg #[.int .i64 19,.int .i64 0,.string ⟨#[]⟩,.string ⟨#[]⟩,.string ⟨#[]⟩,.slice (some ⟨g2,0,none⟩) 1 1]] ((w.alloc (.cells #[.int .i64 4,.int .i64 0,.string ⟨#[]⟩,.string ⟨#[120]⟩,.string ⟨#[]⟩,.slice none 0 0,.int .i64 4,.int .i64 0,.string ⟨#[]⟩,.string ⟨#[121]⟩,.string ⟨#[]⟩,.slice none 0 0] 55)).alloc (.cells #[.int .i64 11,.int .i64 0,.string ⟨#[]⟩,.string ⟨#[]⟩,.string ⟨#[]⟩,.slice (some ⟨g1,0,none⟩) 2 2] 55)) fun x w'=>x=.returned (.tuple #[.string ⟨#[110,111,116,32,120,32,61,32,121]⟩,.int .i64 0])∧Below w.heap.size w w':=by
 have ha:aO (fun k=>k<w.heap.size+2) 1 (w.alloc (.cells (pG ⟨#[120]⟩++pG ⟨#[121]⟩).toArray 55)) (some ⟨g1,0,none⟩) 2 2 [vars ⟨#[120]⟩,vars ⟨#[121]⟩]:=VF _ h1 (by omega) (MC (by unfold okS;decide +kernel)) (MC (by unfold okS;decide +kernel))
 have hb:=VE (F:=fun k=>k<w.heap.size+2) (d:=2) (w:=w.alloc (.cells (pG ⟨#[120]⟩++pG ⟨#[121]⟩).toArray 55)) (g:=g2) 55 (r:=Qe 11 (some ⟨g1,0,none⟩) 2) (e:=opx 11 [vars ⟨#[120]⟩,vars ⟨#[121]⟩]) (by simp[h2]) (by omega) (MF (by decide) (by decide) (ha.below (xN _ _)))
 have hx:=MF (op:=19) (by decide) (by decide) hb
 have hlow:=(xN w (.cells (pG ⟨#[120]⟩++pG ⟨#[121]⟩).toArray 55)).alloc (by simp) (.cells (Qe 11 (some ⟨g1,0,none⟩) 2).toArray 55)
 have h:=zk (fun k=>k<w.heap.size+2) 3 ex1 _ _ hx (by decide) (fun k hk=>by simp;omega) (hm.below hg hlow) (fun _=>adN)
 rw[aaH] at h
 refine h.mono ?_
 rintro x w' ⟨rfl,hw⟩
 exact⟨rfl,hlow.trans (hw.mono hlow.size)⟩
theorem am9 (w:World) (hm:dZ w) (hg:0<w.heap.size) (g1 g2:Nat) (h1:g1=w.heap.size) (h2:g2=w.heap.size+1):Calls Tryz.prog 14 #[.agg #[.int .i64 11,.int .i64 0,.string ⟨#[]⟩,.string ⟨#[]⟩,.string ⟨#[]⟩,.slice (some ⟨g2,0,none⟩) 2 2]] ((w.alloc (.cells #[.int .i64 4,.int .i64 0,.string ⟨#[]⟩,.string ⟨#[120]⟩,.string ⟨#[]⟩,.slice none 0 0] 55)).alloc (.cells #[.int .i64 19,.int .i64 0,.string ⟨#[]⟩,.string ⟨#[]⟩,.string ⟨#[]⟩,.slice (some ⟨g1,0,none⟩) 1 1,.int .i64 4,.int .i64 0,.string ⟨#[]⟩,.string ⟨#[121]⟩,.string ⟨#[]⟩,.slice none 0 0] 55)) fun x w'=>x=.returned (.tuple #[.string ⟨#[40,110,111,116,32,120,41,32,61,32,121]⟩,.int .i64 0])∧Below w.heap.size w w':=by
 have ha:aO (fun k=>k<w.heap.size+2) 1 (w.alloc (.cells (pG ⟨#[120]⟩).toArray 55)) (some ⟨g1,0,none⟩) 1 1 [vars ⟨#[120]⟩]:=VE _ h1 (by omega) (MC (by unfold okS;decide +kernel))
 have hb:=VF (F:=fun k=>k<w.heap.size+2) (d:=2) (w:=w.alloc (.cells (pG ⟨#[120]⟩).toArray 55)) (g:=g2) 55 (r:=Qe 19 (some ⟨g1,0,none⟩) 1) (e:=opx 19 [vars ⟨#[120]⟩]) (r2:=pG ⟨#[121]⟩) (e2:=vars ⟨#[121]⟩) (by simp[h2]) (by omega) (MF (by decide) (by decide) (ha.below (xN _ _))) (MC (by unfold okS;decide +kernel))
 have hx:=MF (op:=11) (by decide) (by decide) hb
 have hlow:=(xN w (.cells (pG ⟨#[120]⟩).toArray 55)).alloc (by simp) (.cells (Qe 19 (some ⟨g1,0,none⟩) 1++pG ⟨#[121]⟩).toArray 55)
 have h:=zk (fun k=>k<w.heap.size+2) 3 ex2 _ _ hx (by decide) (fun k hk=>by simp;omega) (hm.below hg hlow) (fun _=>adO)
 rw[aaI] at h
 refine h.mono ?_
 rintro x w' ⟨rfl,hw⟩
 exact⟨rfl,hlow.trans (hw.mono hlow.size)⟩
theorem Tz (w:World) (hm:dZ w):Calls Tryz.prog 5 #[] w fun x w'=>x=.returned (.bool true)∧Below w.heap.size w w':=by
 obtain⟨w2,Hw2⟩:∃ w2,Hid (w2=((w.alloc (.cells #[.int .i64 4,.int .i64 0,.string ⟨#[]⟩,.string ⟨#[120]⟩,.string ⟨#[]⟩,.slice none 0 0] 55)).alloc (.cells #[.int .i64 4,.int .i64 0,.string ⟨#[]⟩,.string ⟨#[121]⟩,.string ⟨#[]⟩,.slice none 0 0] 55))):=⟨_,rfl⟩
 have hb2:Below w.heap.size w w2:=by rw[Hw2.out];exact(xN _ _).alloc (by simp) _
 have hx2:af w2 w.heap.size 55 #[.int .i64 4,.int .i64 0,.string ⟨#[]⟩,.string ⟨#[120]⟩,.string ⟨#[]⟩,.slice none 0 0]:=by rw[Hw2.out];exact(af.laid _ _ _).ag ((xN _ _).block _ (by simp))
 have hy2:af w2 (w.heap.size+1) 55 #[.int .i64 4,.int .i64 0,.string ⟨#[]⟩,.string ⟨#[121]⟩,.string ⟨#[]⟩,.slice none 0 0]:=by rw[Hw2.out];exact fZ (by simp) _ _
 have Hx:=ae (fun W (hW:Below w2.heap.size w2 W)=>lX (hx2.ag (hW.block _ hx2.lt)))
 have Hy:=ae (fun W (hW:Below w2.heap.size w2 W)=>lX (hy2.ag (hW.block _ hy2.lt)))
 have hmg:=Nat.lt_of_lt_of_le hm.lt hb2.size
 have H1:=ae (am8 w2 (hm.below hm.lt hb2) hmg w2.heap.size (w2.heap.size+1) rfl rfl)
 have H2:=ae (fun W (hW:Below w2.heap.size w2 W)=>am9 W ((hm.below hm.lt hb2).below hmg hW) (Nat.lt_of_lt_of_le hmg hW.size) W.heap.size (W.heap.size+1) rfl rfl)
 obtain⟨x0,x1,x2,x3,x4,x5,xl⟩:=Hx.out _ (Below.refl _ _)
 obtain⟨y0,y1,y2,y3,y4,y5,yl⟩:=Hy.out _ (Below.refl _ _)
 have Hb2:=ae hb2
 clear hb2 hx2 hy2 hmg hm
 go_enter Tryz.func5,Tryz.ntmps5
 go_upto_region 3 with (fail)
 rw[← Hw2.out]
 go_wp2_with (go_at_call 14;refine H1.out.mono ?_)
 rintro x w3 ⟨rfl,hb3⟩
 obtain⟨u0,u1,u2,u3,u4,u5,ul⟩:=Hx.out _ hb3
 obtain⟨v0,v1,v2,v3,v4,v5,vl⟩:=Hy.out _ hb3
 have H3:=ae (H2.out _ hb3)
 have Hb3:=ae hb3
 clear hb3 x0 x1 x2 x3 x4 x5 xl y0 y1 y2 y3 y4 y5 yl
 go_wp2_with (go_at_call 14;refine H3.out.mono ?_)
 rintro x w4 ⟨rfl,hb4⟩
 have Hb4:=ae (Hb2.out.trans ((Hb3.out.trans (hb4.mono Hb3.out.size)).mono Hb2.out.size))
 clear hb4
 go_wp2
 go_ret
 exact⟨aaE (by simp),Hb4.out⟩
end Go.Proofs.YtjjfkhbajidmdaaGreatDoor
namespace Go.Afx
open Go.RowKit
def oJ (l:List (List UInt8)):List UInt8:=l.flatMap fun x=>[44,32]++x
def aQ:List (List UInt8)→List UInt8
 | []=>[]
 | a::r=>a++oJ r
theorem WS (a:List UInt8):aQ [a]=a:=by simp[aQ,oJ]
theorem TA {l:List (List UInt8)} (a:List UInt8) (h:l≠[]):aQ (l++[a])=aQ l++[44,32]++a:=by
 cases l with
 | nil=>exact absurd rfl h
 | cons b r=>simp[aQ,oJ]
theorem uZ {l:List (List UInt8)} {k:Nat} (h:k<l.length):aQ (l.take (k+1))=(if k=0 then l[k]'h else aQ (l.take k)++[44,32]++l[k]'h):=by
 rw[List.take_succ_eq_append_getElem h]
 split
 ·rename_i h0
  subst h0
  simp[WS]
 ·rename_i h0
  rw[TA]
  intro e
  have:=congrArg List.length e
  rw[List.length_take,List.length_nil] at this
  omega
theorem uj {l:List (List UInt8)} {k:Nat} (h:k<l.length):(aQ (l.take k)).length+(if k=0 then 0 else 2)+(l[k]'h).length≤(aQ l).length:=by
 have hall:∀ m,(aQ (l.take m)).length≤(aQ l).length:=by
  intro m
  cases l with
  | nil=>simp[aQ]
  | cons a r =>
   cases m with
   | zero=>simp[aQ]
   | succ m =>
    rw[List.take_succ_cons]
    simp only[aQ,oJ,List.length_append]
    have:((r.take m).flatMap fun x=>[44,32]++x).length≤(r.flatMap fun x=>([44,32]:List UInt8)++x).length:=by
     conv=>rhs;rw[← List.take_append_drop m r]
     rw[List.flatMap_append,List.length_append]
     omega
    omega
 have h1:=hall (k+1)
 rw[uZ h] at h1
 split at h1
 ·rename_i h0
  subst h0
  simp[aQ] at h1 ⊢
  exact h1
 ·rename_i h0
  rw[if_neg h0]
  simp only[List.length_append,List.length_cons,List.length_nil] at h1
  omega
def pW (k:Nat):List UInt8:=List.replicate (2*k) 32
def eU (f:Nat→St→List UInt8) (k:Nat) (l:List St):List UInt8 :=
 if l=[] then [123,125] else [123,10]++(l.flatMap fun x=>pW (k+1)++f (k+1) x++[10])++pW k++[125]
def rV (d:Nat) (name src:ByteArray):List Ex→List UInt8
 | []=>[]
 | a::_=>kJ name src a.op a.n (aY d a)
def jA (d:Nat):List ByteArray→List Ex→List (List UInt8)
 | c::cs,e::es=>(c.data.toList++[32,61,32]++aY d e)::jA d cs es
 | _,_=>[]
def EI (d:Nat) (op:Int) (name src:ByteArray) (cols:List ByteArray) (exprs:List Ex):List UInt8 :=
 if op=1 then [108,101,116,32]++name.data.toList++[32,61,32]++aQ (exprs.map (aY d))
 else if op=2 then [115,101,116,32]++name.data.toList++[32,61,32]++aQ (exprs.map (aY d))
 else if op=3 then [105,110,115,101,114,116,32]++src.data.toList++[40]++aQ (exprs.map (aY d))++[41]
 else if op=8 then [101,109,105,116,32]++src.data.toList++[40]++aQ (exprs.map (aY d))++[41]
 else if op=4 then [117,112,100,97,116,101,32]++rV d name src exprs++[32,115,101,116,32]++aQ (jA d cols exprs.tail)
 else if op=5 then [100,101,108,101,116,101,32]++rV d name src exprs
 else if op=9 then [97,98,111,114,116,32]++aQ (exprs.map (aY d))
 else [114,101,112,108,121,32]++aQ (exprs.map (aY d))
def firstT (d:Nat):List Ex→List UInt8
 | []=>[]
 | a::_=>aY d a
def dD:Nat→Nat→St→List UInt8
 | 0,_,_=>[]
 | d+1,k,x =>
  if x.op=6 then [102,111,114,32]++rV d x.name x.src x.exprs++(if 0<x.n then [32,108,105,109,105,116,32]++dU x.n else [])++[32]++eU (dD d) k x.body
  else if x.op=7 then [105,102,32]++firstT d x.exprs++[32]++eU (dD d) k x.body++(if x.els=[] then [] else [32,101,108,115,101,32]++eU (dD d) k x.els)
  else EI d x.op x.name x.src x.cols x.exprs++[59]
def Si:Nat→St→Bool
 | 0,_=>false
 | d+1,x=>x.exprs.any (zH d)||x.body.any (Si d)||x.els.any (Si d)
def jY (k:Int):List UInt8:=if k=1 then [105,110,116] else if k=2 then [116,101,120,116] else [98,111,111,108]
def dM (c:Co):List UInt8:=c.name.data.toList++[32]++jY c.kind
def oK (d:Nat) (p:Pr):List UInt8 :=
 [112,114,111,99,32]++p.name.data.toList++[40]++aQ (p.params.map dM)++[41]++(if noS p.part then [] else [32,111,110,32]++p.part.data.toList) ++
 (if noS p.src then [] else [32,102,114,111,109,32]++p.src.data.toList)++(if p.fuel=100 then [] else [32,102,117,101,108,32]++dU p.fuel)++[32]++eU (dD d) 0 p.body
def nlP (d:Nat) (p:Pr):Bool:=p.body.any (Si d)
end Go.Afx
