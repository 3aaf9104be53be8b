/- Parts of this proof, one behind the other: RgP, RgQ, RgU. -/
import Derived.Test.YtdgapmnojmhllaaGreatDoorPf37
import Derived.Test.YtdgapmnojmhllaaGreatDoorPf26
import Derived.Test.YtdgapmnojmhllaaGreatDoorPf31
import Derived.Test.YtdgapmnojmhllaaGreatDoorPf5
import Derived.Test.YtdgapmnojmhllaaGreatDoorPf13
set_option maxRecDepth 1000000
set_option maxHeartbeats 40000000
namespace Go.Proofs.YtdgapmnojmhllaaGreatDoor
open Go.RowKit Go.Afx
theorem DgAt.take {w:World} {A:Option Addr} {n c m:Nat} {l:List Nat} (h:DgAt w A n c l) (hm:m≤n):DgAt w A m c (l.take m):=by
 have hl:=h.len
 refine⟨?_,Nat.le_trans hm h.cap,h.max,fun k row hk=>h.at_ k row ?_⟩
 ·unfold digC
  rw[List.length_map,List.length_take]
  omega
 ·unfold digC at hk ⊢
  rw[List.map_take,List.getElem?_take] at hk
  split at hk
  ·exact hk
  ·cases hk
def Trims (l:List Nat) (n m:Nat):Prop:=m≤n∧valD (l.take m)=valD l∧TopD (l.take m)
theorem trimD_any (A:Option Addr) (n c:Nat) (l:List Nat) (w:World) (hA:DgAt w A n c l) (hn:n≤1000000) (h:l=[0]∨TopD l) :
  Calls Tryz.prog 149 #[.slice A n c] w fun e w'=>(∃ m,e=.returned (.slice A m c)∧Trims l n m)∧w=w':=by
 have hl:=hA.len
 rcases h with rfl|h
 ·obtain⟨b,o,rfl,hb,hc⟩:=hA.get (k:=0) (x:=0) rfl
  have hc:w.cell? ⟨b,o,none⟩=some (.int .i64 0):=hc
  have hl:n=1:=by simpa using hl.symm
  subst hl
  have Hz:=Lhd (show Trims [0] 1 0 from ⟨by omega,rfl,.inl rfl⟩)
  have hcap:=hA.cap
  have hmax:=hA.max
  unfold maxLen at hmax
  clear hA
  go_enter Tryz.func149,Tryz.ntmps149
  go_wp2
  refine wp_loop_rounds 2 ?_
  rw[rounds_succ]
  go_wp2
  rw[rounds_succ]
  go_wp2
  go_ret
  exact⟨⟨0,rfl,Hz.out⟩,rfl⟩
 ·have Ht:=Lhd (show Trims l n n from ⟨Nat.le_refl _,by rw[← hl,List.take_length],by rw[← hl,List.take_length];exact h⟩)
  rcases h with rfl|⟨m,x,rfl,hx⟩
  ·have hl:n=0:=by simpa using hl.symm
   subst hl
   clear hA
   go_enter Tryz.func149,Tryz.ntmps149
   go_wp2
   refine wp_loop_rounds 1 ?_
   rw[rounds_succ]
   go_wp2
   go_ret
   exact⟨⟨_,rfl,Ht.out⟩,rfl⟩
  ·have hl:m.length+1=n:=by simpa using hl
   obtain⟨b,o,rfl,hb,hc⟩:=hA.get (k:=m.length) (x:=x) (by simp)
   rw[show m.length=n-1 by omega] at hc
   have q:((x:Int)==0)=false:=by simpa using hx
   have hd:decide ((0:Int)<(n:Int))=true:=by simp;omega
   have e1:((n:Int)-1).toNat=n-1:=by omega
   have i1:(0:Int)≤(n:Int)-1:=by omega
   have i2:(n:Int)-1<(n:Int):=by omega
   clear hA hl
   go_enter Tryz.func149,Tryz.ntmps149
   go_wp2
   refine wp_loop_rounds 1 ?_
   rw[rounds_succ]
   go_wp2
   go_ret
   exact⟨⟨_,rfl,Ht.out⟩,rfl⟩
theorem signD_any (A:Option Addr) (n c:Nat) (l:List Nat) (w:World) (hA:DgAt w A n c l) (hn:n≤1000000) (h:l=[0]∨TopD l) :
  Calls Tryz.prog 107 #[.bool false,.slice A n c] w fun e w'=>(∃ m,e=.returned (.agg #[.bool false,.slice A m c])∧Trims l n m)∧Below w.heap.size w w':=by
 obtain⟨w1,Hw1⟩:∃ w1,Hid (w1=w.alloc (.cells #[.bool false,.slice none 0 0] 174)):=⟨_,rfl⟩
 have hb1:Below w.heap.size w w1:=by rw[Hw1.out];exact(Below.refl _ _).alloc (Nat.le_refl _) _
 have Ht:=Lhd (trimD_any A n c l w1 (RowsAt.below hA hb1) hn h)
 rw[Hw1.out] at Ht
 clear h hb1 Hw1 w1 hA
 go_enter Tryz.func107,Tryz.ntmps107
 go_wp2_with (go_at_call 149;refine Ht.out.mono ?_;rintro e w2 ⟨⟨m,rfl,ht⟩,rfl⟩)
 refine bodyPost_ret (v:=.agg #[.bool false,.slice A m c]) (by simp[results,Tryz.results107,go_sem]) rfl ⟨⟨m,rfl,ht⟩,?_⟩
 exact(Below.refl _ _).alloc (Nat.le_refl _) _
theorem dropL (s:ByteArray) {j:Nat} (h:j<s.size):s.data.toList.drop j=s[j]::s.data.toList.drop (j+1):=by
 rw[List.drop_eq_getElem_cons (by rw[szl];exact h)]
 rfl
theorem digR_step (s:ByteArray) {j:Nat} (h:j<s.size):digR (s.data.toList.drop j)=digR (s.data.toList.drop (j+1))++[s[j].toNat-48]:=by
 rw[dropL s h]
 unfold digR
 rw[List.map_cons,List.reverse_cons]
theorem bad_none {t:List UInt8} (h:parseN t=none):NumSaid t 0 12:=by
 unfold NumSaid
 rw[h]
 exact⟨by decide,by decide⟩
theorem bad_digit {s:ByteArray} {j:Nat} (h:j<s.size) (hd:dgB s[j]=false):NumSaid s.data.toList 0 12:=by
 have ha:s.data.toList.all dgB=false:=by
  rw[List.all_eq_false]
  exact⟨s[j],by rw[← List.take_append_drop j s.data.toList,dropL s h];simp,by rw[hd];decide⟩
 refine bad_none ?_
 unfold parseN
 rw[if_pos (.inr ha)]
theorem bad_nought {s:ByteArray} (h0:0<s.size) (h1:1<s.size) (hz:s[0]=48):NumSaid s.data.toList 0 12:=by
 have ha:s.data.toList.head?=some 48:=by
  have:=dropL s h0
  rw[List.drop_zero] at this
  rw[this,hz]
  rfl
 refine bad_none ?_
 unfold parseN
 rw[if_pos (.inl ⟨ha,by rw[szl];exact h1⟩)]
theorem good_num {s:ByteArray} (h0:0<s.size) (hall:∀ c∈s.data.toList,dgB c=true) (hz:¬ (s[0]=48∧1<s.size)) (v e:Int) (h:if numL s.data.toList≤9223372036854775807 then v=numL s.data.toList∧e=0 else 1≤e∧e≤100):NumSaid s.data.toList v e:=by
 unfold NumSaid parseN
 rw[if_neg ?_]
 ·by_cases hm:numL s.data.toList≤9223372036854775807
  ·rw[if_pos hm] at h ⊢;exact h
  ·rw[if_neg hm] at h ⊢;exact h
 ·rintro(⟨h1,h2⟩|h1)
  ·have:=dropL s h0
   rw[List.drop_zero] at this
   rw[this] at h1
   exact hz ⟨Option.some.inj h1,by rwa [szl] at h2⟩
  ·rw[List.all_eq_false] at h1
   obtain⟨c,hc,hn⟩:=h1
   exact hn (hall c hc)
theorem top_num {s:ByteArray} (h0:0<s.size) (hall:∀ c∈s.data.toList,dgB c=true) (hz:¬ (s[0]=48∧1<s.size)):digR s.data.toList=[0]∨TopD (digR s.data.toList):=by
 have e:=dropL s h0
 rw[List.drop_zero] at e
 by_cases h:s[0]=48
 ·left
  have h1:s.data.toList.drop 1=[]:=List.drop_eq_nil_of_le (by rw[szl];exact Nat.not_lt.1 fun h2=>hz ⟨h,h2⟩)
  rw[h1,h] at e
  rw[e]
  decide
 ·right
  have hd:=hall s[0] (by rw[e];simp)
  rw[e]
  exact digR_top hd h
theorem refParse_any (s:ByteArray) (w:World) (h0:0<s.size) (hd:dgB s[0]=true) (hs:s.size≤1000000) :
  Calls Tryz.prog 62 #[.string s] w fun x w'=>(∃ v e:Int,x=.returned (.tuple #[.int .i64 v,.int .i64 e])∧NumSaid s.data.toList v e)∧Below w.heap.size w w':=by
 have hd2:48≤s[0].toNat∧s[0].toNat≤57:=by simpa [dgB] using hd
 have g0:decide ((0:Int)<(s.size:Int))=true:=by simp;omega
 have g1:((s[0].toNat:Int)==45)=false:=by rw[beq_eq_false_iff_ne];omega
 have g2:((s.size:Int)==0)=false:=by rw[beq_eq_false_iff_ne];omega
 have hb1:=(Below.refl w.heap.size w).alloc (Nat.le_refl _) (.cells #[.bool false,.slice none 0 0] 174)
 have hk1:IsBlk (w.alloc (.cells #[.bool false,.slice none 0 0] 174)) w.heap.size 174 #[.bool false,.slice none 0 0]:=IsBlk.laid _ _ _
 obtain⟨w1,Hw1⟩:∃ w1,Hid (w1=w.alloc (.cells #[.bool false,.slice none 0 0] 174)):=⟨_,rfl⟩
 have hz1:w1.heap.size=w.heap.size+1:=by rw[Hw1.out];simp
 rw[← Hw1.out] at hb1 hk1
 have Hb1:=Lhd hb1
 have Hk1:=Lhd hk1
 have Hz1:=Lhd hz1
 have Hs:=Lhd hs
 clear hb1 hk1 hz1 hd hd2
 go_enter Tryz.func62,Tryz.ntmps62
 go_upto_region 2 with (fail)
 rw[← Hw1.out]
 go_wp2
 go_loopw [6] (fun i wr=>∃ (q:Int) (A:Option Addr) (c:Nat) (D:List Nat),i=.int .i64 q∧-1≤q∧q<s.size∧Hid (D=digR (s.data.toList.drop (q+1).toNat)∧(∀ y∈s.data.toList.drop (q+1).toNat,dgB y=true)∧D.length≤1000000)∧Hid (IsBlk wr w.heap.size 174 #[.bool false,.slice A D.length c])∧Hid (wr.ownsRow (w.heap.size+1) 3 1 (.slice A D.length c) D.length (digC D).flatten)∧Hid (Below w.heap.size w wr)) (fun i _=>(intOf i+1).toNat)
 case atStart =>
  refine⟨(s.size:Int)-1,none,0,[],by first|rfl|go_num,by omega,by omega,Lhd ⟨?_,?_,by simp⟩,Hk1,Lhd (World.ownsRow_nil _ _ _ _),Hb1⟩
  ·rw[List.drop_eq_nil_of_le (by rw[szl];omega)];rfl
  ·rw[List.drop_eq_nil_of_le (by rw[szl];omega)];simp
 case round =>
  obtain⟨q,A,c,D,rfl,h1,h2,HD,HK,HO,HB⟩:=hrel
  rcases Int.lt_or_le q 0 with hneg|hpos
  ·obtain rfl:q = -1:=by omega
   have hD:=HD.out
   rw[show ((-1:Int)+1).toNat=0 by decide,List.drop_zero] at hD
   by_cases hz:s[0]=48∧1<s.size
   ·have q0:((s[0].toNat:Int)==48)=true:=by rw[hz.1];rfl
    have q1:decide ((1:Int)<(s.size:Int))=true:=by have:=hz.2;simp;omega
    have HN:=Lhd (bad_nought h0 hz.2 hz.1)
    clear hz hD
    go_wp2
    go_ret2
    exact⟨⟨0,12,rfl,HN.out⟩,HB.out⟩
   ·have hG:=fun v e h=>good_num h0 hD.2.1 hz v e h
    have ht:=top_num h0 hD.2.1 hz
    have hsg:=signD_any A D.length c D wr (RowsAt.of_own HO.out digC_len (by unfold digC;simp)) HD.out.2.2 (by rw[hD.1];exact ht)
    have hlt:=digR_lt hD.2.1
    have hval:=val_digR s.data.toList
    rw[← hD.1] at hlt hval ht
    rw[← hval] at hG
    have Hsg:=Lhd hsg
    have HG:=Lhd (And.intro hG hlt)
    have hT:∀ m,m≤D.length→(∀ x∈D.take m,x<10)∧∀ w2,Below wr.heap.size wr w2→DgAt w2 A m c (D.take m):=fun m hm=>⟨fun x hx=>hlt x (List.mem_of_mem_take hx),fun w2 hb=>DgAt.take (RowsAt.below (RowsAt.of_own HO.out digC_len (by unfold digC;simp)) hb) hm⟩
    have HT:=Lhd hT
    obtain⟨k0,k1,_⟩:wr.cell? ⟨w.heap.size,0,none⟩=some (.bool false)∧wr.cell? ⟨w.heap.size,1,none⟩=some (.slice A D.length c)∧True:=by
     have a:=HK.out.cell 0
     have b:=HK.out.cell 1
     simp at a b
     exact⟨a,b,trivial⟩
    have hq:((s[0].toNat:Int)==48)=false∨(((s[0].toNat:Int)==48)=true∧decide ((1:Int)<(s.size:Int))=false):=by
     by_cases h48:s[0]=48
     ·right
      exact⟨by rw[h48];rfl,decide_eq_false (by have:=Nat.not_lt.1 fun h2=>hz ⟨h48,h2⟩;omega)⟩
     ·left
      rw[beq_eq_false_iff_ne]
      exact fun e=>h48 (UInt8.toNat_inj.1 (by show s[0].toNat=48;omega))
    have Hq:=Lhd hq
    have Hdl:=Lhd HD.out.2.2
    clear hG hsg hlt hval ht hz hD hq hT
    generalize D.length=dl at *
    rcases Hq.out with q0|⟨q0,q1⟩
    all_goals
     go_wp2_with (fail)
     refine Hsg.out.mono ?_
     rintro e w2 ⟨⟨m,rfl,hm⟩,hb2⟩
     obtain⟨hx2,hA2⟩:=HT.out m hm.1
     have hsm:=refSmall_any A m c (D.take m) w2 (hA2 w2 hb2) hx2 hm.2.2 (by have:=hm.1;have:=Hdl.out;omega)
     rw[hm.2.1] at hsm
     have Hb2:=Lhd (HB.out.trans (hb2.mono HB.out.size))
     have Hsm:=Lhd hsm
     clear hsm hx2 hA2 hb2 hm
     go_wp2_with (fail)
     refine Hsm.out.mono ?_
     rintro e w3 ⟨hS,hb3⟩
     have Hb3:=Lhd (Hb2.out.trans (hb3.mono Hb2.out.size))
     unfold SmallSaid at hS
     clear hb3
     rcases Nat.lt_or_ge 9223372036854775807 (valD D) with hV|hV
     ·rw[decide_eq_false (by omega),if_neg (by omega)] at hS
      have HN:=Lhd (HG.out.1 0 2 (by rw[if_neg (by omega)];exact⟨by decide,by decide⟩))
      clear hV
      subst hS
      go_wp2
      go_ret2
      exact⟨⟨0,2,rfl,HN.out⟩,Hb3.out⟩
     ·rw[decide_eq_true hV,if_pos hV] at hS
      have HN:=Lhd (HG.out.1 (valD D) 0 (by rw[if_pos hV];exact⟨rfl,rfl⟩))
      clear hV
      generalize valD D=V at *
      subst hS
      go_wp2
      go_ret2
      exact⟨⟨V,0,rfl,HN.out⟩,Hb3.out⟩
  ·obtain⟨j,rfl⟩:∃ j:Nat,q=j:=⟨q.toNat,by omega⟩
   have hj:j<s.size:=by omega
   have hD:=HD.out
   rw[show ((j:Int)+1).toNat=j+1 by omega] at hD
   have hlen:D.length=s.size-(j+1):=by rw[hD.1,digR_len,List.length_drop,szl]
   have i0:(0:Int)≤(j:Int):=by omega
   clear h1 h2 hpos
   cases hc:dgB s[j] with
   | false =>
    have HN:=Lhd (bad_digit hj hc)
    have hcc:s[j].toNat<48∨57<s[j].toNat:=by
     rcases Nat.lt_or_ge s[j].toNat 48 with h|h
     ·exact .inl h
     ·right
      rcases Nat.lt_or_ge 57 s[j].toNat with h2|h2
      ·exact h2
      ·have:dgB s[j]=true:=by simp[dgB,h,h2]
       rw[this] at hc;cases hc
    clear hD hlen hc
    rcases hcc with h|h
    all_goals
     go_wp2
     go_ret2
     exact⟨⟨0,12,rfl,HN.out⟩,HB.out⟩
   | true =>
    have hcc:48≤s[j].toNat∧s[j].toNat≤57:=by simpa [dgB] using hc
    obtain⟨c1,c2⟩:=hcc
    have hnext:D++[s[j].toNat-48]=digR (s.data.toList.drop j)∧(∀ y∈s.data.toList.drop j,dgB y=true)∧(D++[s[j].toNat-48]).length≤1000000:=by
     refine⟨by rw[digR_step s hj,hD.1],fun y hy=>?_,by have:=Hs.out;simp;omega⟩
     rw[dropL s hj] at hy
     rcases List.mem_cons.1 hy with rfl|hy
     ·exact hc
     ·exact hD.2.1 y hy
    have Hnext:=Lhd hnext
    have hsub:(s[j].toNat:Int)-48=((s[j].toNat-48:Nat):Int):=by omega
    have hz:=HB.out.size
    have k1:wr.cell? ⟨w.heap.size,1,none⟩=some (.slice A D.length c):=by
     have b:=HK.out.cell 1
     simp at b
     exact b
    have k0:w.heap.size<wr.heap.size:=HK.out.lt
    have hf:=HK.out.frozen
    have Hlen:=Lhd (show D.length+1≤1000000 by have:=Hs.out;omega)
    clear hD hlen hc hnext
    have hal:=((Below.refl wr.heap.size wr).alloc (Nat.le_refl _) (.cells #[.int .i64 ((s[j].toNat-48:Nat):Int)] 3)).drew
    have hownA:((wr.alloc (.cells #[.int .i64 ((s[j].toNat-48:Nat):Int)] 3)).drew).ownsRow (w.heap.size+1) 3 1 (.slice A D.length c) D.length (digC D).flatten:=own_below HO.out hal
    have hnewA:RowsAt ((wr.alloc (.cells #[.int .i64 ((s[j].toNat-48:Nat):Int)] 3)).drew) 1 (some ⟨wr.heap.size,0,none⟩) 1 1 [[.int .i64 ((s[j].toNat-48:Nat):Int)]]:=RowsAt.below (w:=wr.alloc (.cells #[.int .i64 ((s[j].toNat-48:Nat):Int)] 3)) (RowsAt.lit' _ _ 1 (by rfl) rfl (by simp) rfl (by unfold maxLen;omega)) (Below.refl _ _).drew
    have hm1:D.length+1≤maxLen:=by have:=Hlen.out;unfold maxLen;omega
    have hm2:(D.length+1)*8≤140737488355328:=by have:=Hlen.out;omega
    have hm3:w.heap.size+1≤((wr.alloc (.cells #[.int .i64 ((s[j].toNat-48:Nat):Int)] 3)).drew).heap.size:=by simp;omega
    have hAl:¬ A.map (·.block)=some w.heap.size:=by
     intro e
     cases A with
     | none=>cases e
     | some a2 =>
      have h:=(HO.out.lt a2.block rfl).1
      simp at e
      omega
    have HAl:=Lhd hAl
    have Hc3:=Lhd (fun (w3:World) (hb:But (fun k=>A.map (·.block)=some k) ((wr.alloc (.cells #[.int .i64 ((s[j].toNat-48:Nat):Int)] 3)).drew) w3)=>(HK.out.as_was (hal.block _ HK.out.lt)).as_was (hb.block _ (by simp;omega) HAl.out))
    have Hfin:=Lhd (fun (w3:World) (hb:But (fun k=>A.map (·.block)=some k) ((wr.alloc (.cells #[.int .i64 ((s[j].toNat-48:Nat):Int)] 3)).drew) w3)=>HB.out.trans ((hal.mono hz).trans (hb.below' (by simp;omega) fun i hi=>by
     cases A with
     | none=>cases hi
     | some a=>have:=(HO.out.lt i hi).1;omega)))
    clear hal hAl
    have w1':IntKind.u8.wrap ((s[j].toNat-48:Nat):Int)=((s[j].toNat-48:Nat):Int):=by simp[IntKind.wrap,IntKind.signed,IntKind.bits];omega
    have w2':IntKind.i64.wrap ((s[j].toNat-48:Nat):Int)=((s[j].toNat-48:Nat):Int):=i64_of ⟨by omega,by omega⟩
    go_wp2
    go_region_law (refine stepAppP (base:=w.heap.size+1) (xs:=digC D) (news:=[[.int .i64 ((s[j].toNat-48:Nat):Int)]]) rfl rfl tyIntW rfl hownA rfl hnewA (by simp) (by simp[Value.oneCell']) hm1 hm2 hm3 ?_;intro A3 c3 w3 hown3 hbut3 hf3;have hfz3:=(Hc3.out w3 hbut3).frozen;have hk3:=(Hc3.out w3 hbut3).cell 1;simp at hk3)
    all_goals
     have HK3:=Lhd ((Hc3.out w3 hbut3).stored 1 (.slice A3 (D.length+1) c3))
     have HB3:=Lhd ((Hfin.out w3 hbut3).setCell (p:=⟨w.heap.size,1,none⟩) (Nat.le_refl _) (.slice A3 (D.length+1) c3))
     have HO3:=Lhd hown3
     clear hown3 hbut3 hf3 hfz3 hk3 hownA hnewA
     go_wp2
     go_roundw
     case rel =>
      refine⟨(j:Int)-1,A3,c3,D++[s[j].toNat-48],by first|rfl|go_num,by omega,by omega,Lhd ?_,Lhd ?_,Lhd ?_,HB3⟩
      ·rw[show ((j:Int)-1+1).toNat=j by omega]
       exact Hnext.out
      ·rw[List.length_append]
       exact HK3.out
      ·rw[List.length_append,show digC (D++[s[j].toNat-48])=digC D++[[.int .i64 ((s[j].toNat-48:Nat):Int)]] by unfold digC;rw[List.map_append];rfl]
       refine own_but HO3.out ((But.refl (fun i=>i=w.heap.size) w3).setCell (p:=⟨w.heap.size,1,none⟩) (.inl rfl) _) (fun i hi e=>?_)
       subst e
       have:=(HO3.out.lt _ hi).1
       omega
     case measure=>simp[intOf]
def RefWords (n base:Nat) (m:Nat ⊕ List Wd) (e:Ending) (w':World):Prop:=match m with
 | .inl at_=>e=.returned (.tuple #[.slice none 0 0,.int .i64 at_])
 | .inr ws=>∃ A c,e=.returned (.tuple #[.slice A ws.length c,.int .i64 (-1)])∧w'.ownsRow base 130 4 (.slice A ws.length c) ws.length (ws.map wrow).flatten∧(∀ x∈ws,okW x)∧ws.length≤n
theorem tyRw:ElemTy Tryz.prog 78 130 4 40 (.agg #[.int .i64 0,.string ByteArray.empty,.int .i64 0,.int .i64 0]):=⟨Tryz.underlying78,by kernel_rfl,rfl,by decide⟩
structure WordsAt (L:List UInt8) (m:Nat ⊕ List Wd) (base:Nat) (w0:World) (k:Nat) (ws:List Wd) (A:Option Addr) (c:Nat) (wr:World):Prop where
 own:wr.ownsRow base 130 4 (.slice A ws.length c) ws.length (ws.map wrow).flatten
 ok:∀ x∈ws,okW x
 few:ws.length≤k
 eq:m=appX ws (lexA k (L.drop k))
 b:Below base w0 wr
section
variable {L:List UInt8} {m:Nat ⊕ List Wd} {base k:Nat} {w0 wr:World} {ws:List Wd} {A:Option Addr} {cc:Nat} {c:UInt8} {r:List UInt8}
theorem words_blank (h:WordsAt L m base w0 k ws A cc wr) (hd:L.drop k=c::r) (hr:L.drop (k+1)=r) (hc:wsB c=true):WordsAt L m base w0 (k+1) ws A cc wr :=
 ⟨h.own,h.ok,by have:=h.few;omega,by rw[h.eq,hd,lexA_blank hc,hr],h.b⟩
theorem words_remark (h:WordsAt L m base w0 k ws A cc wr) (hd:L.drop k=47::47::r) (j:Nat) (hj:j=k+remL (L.drop k)):WordsAt L m base w0 j ws A cc wr :=
 ⟨h.own,h.ok,by have:=h.few;omega,by rw[h.eq,hj,← List.drop_drop,hd,lexA_remark],h.b⟩
theorem words_none (h:WordsAt L m base w0 k ws A cc wr) (hd:L.drop k=c::r) (hw:wsB c=false) (h2:¬ (c.toNat=47∧r.head?=some 47)) (hn:nextX (L.drop k)=none):m=.inl k:=by
 rw[h.eq,hd,lexA_word hw h2,← hd,hn]
 rfl
theorem words_some (h:WordsAt L m base w0 k ws A cc wr) (hd:L.drop k=c::r) (hw:wsB c=false) (h2:¬ (c.toNat=47∧r.head?=some 47)) {x:Nx} (hn:nextX (L.drop k)=some x):m=appX (ws++[⟨x.kind,str x.text,x.n,k⟩]) (lexA (k+x.len) (L.drop (k+x.len))):=by
 rw[h.eq,hd,lexA_word hw h2,← hd,hn]
 show appX ws (conX _ _)=_
 rw[appX_con,List.drop_drop]
theorem WordsAt.below (h:WordsAt L m base w0 k ws A cc wr) {w2:World} (hb:Below wr.heap.size wr w2) (hz:base≤w0.heap.size):WordsAt L m base w0 k ws A cc w2 :=
 ⟨own_below h.own hb,h.ok,h.few,h.eq,h.b.trans (hb.mono (Nat.le_trans hz h.b.size))⟩
theorem word_laid (h:WordsAt L m base w0 k ws A cc wr) (hz:base≤w0.heap.size) (hL:k≤1000000) (kk n a:Int) (t:ByteArray) :
  (wr.alloc (.cells #[.int .i64 kk,.string t,.int .i64 n,.int .i64 a] 130)).ownsRow base 130 4 (.slice A ws.length cc) ws.length (ws.map wrow).flatten ∧
  RowsAt (wr.alloc (.cells #[.int .i64 kk,.string t,.int .i64 n,.int .i64 a] 130)) 4 (some ⟨wr.heap.size,0,none⟩) 1 1 [[.int .i64 kk,.string t,.int .i64 n,.int .i64 a]]∧ws.length+1≤maxLen∧(ws.length+1)*40≤140737488355328 ∧
  base≤(wr.alloc (.cells #[.int .i64 kk,.string t,.int .i64 n,.int .i64 a] 130)).heap.size∧(∀ w6,But (fun k=>A.map (·.block)=some k) (wr.alloc (.cells #[.int .i64 kk,.string t,.int .i64 n,.int .i64 a] 130)) w6→Below base w0 w6):=by
 have hal:=(Below.refl wr.heap.size wr).alloc (Nat.le_refl _) (.cells #[.int .i64 kk,.string t,.int .i64 n,.int .i64 a] 130)
 have h5:=h.below hal hz
 have hs:=h5.b.size
 have hf:=h.few
 exact⟨h5.own,RowsAt.lit' _ _ 1 rfl rfl (by simp) rfl (by unfold maxLen;omega),by unfold maxLen;omega,by omega,by omega,fun w6 hb=>h5.b.trans (own_turned h5.own hb (by omega))⟩
theorem words_more (h:WordsAt L m base w0 k ws A cc wr) (hd:L.drop k=c::r) (hw:wsB c=false) (h2:¬ (c.toNat=47∧r.head?=some 47)) {x:Nx} (hn:nextX (L.drop k)=some x) (hL:L.length≤1000000) (hk:k<L.length) {w6:World} {A6:Option Addr} {c6:Nat}
  (hown:w6.ownsRow base 130 4 (.slice A6 (ws.length+1) c6) (ws.length+1) (ws.map wrow++[wrow ⟨x.kind,str x.text,x.n,k⟩]).flatten) (hb:Below base w0 w6):WordsAt L m base w0 (k+x.len) (ws++[⟨x.kind,str x.text,x.n,k⟩]) A6 c6 w6:=by
 obtain⟨l1,l2⟩:=next_len hn
 have hok:=next_ok hn (by rw[List.length_drop];omega)
 refine⟨by simpa using hown,fun y hy=>?_,by have:=h.few;simp;omega,words_some h hd hw h2 hn,hb⟩
 rcases List.mem_append.1 hy with hy|hy
 ·exact h.ok y hy
 ·simp only[List.mem_singleton] at hy
  subst hy
  exact⟨hok.1,hok.2.1,hok.2.2,by unfold okI;simp only;omega⟩
end
theorem rem_run (s:ByteArray) {k j:Nat} (hk:k≤j) (hj:j≤s.size) (hle:j≤k+remL (s.data.toList.drop k)):(∀ h:j<s.size,s[j]≠10→j+1≤k+remL (s.data.toList.drop k))∧((∀ h:j<s.size,s[j]=10)→j=k+remL (s.data.toList.drop k)):=by
 have key:∀ (l:List UInt8) (i:Nat),i≤remL l→(∀ c,l[i]?=some c→c≠10→i+1≤remL l)∧((∀ c,l[i]?=some c→c=10)→i=remL l):=by
  intro l
  induction l with
  | nil=>intro i hi;exact⟨fun c hc=>by simp at hc,fun _=>by have:remL []=0:=rfl;omega⟩
  | cons a l ih =>
   intro i hi
   by_cases ha:a=10
   ·subst ha
    have e:remL (10::l)=0:=rfl
    rw[e] at hi ⊢
    obtain rfl:i=0:=by omega
    exact⟨fun c hc hne=>absurd (Option.some.inj hc).symm hne,fun _=>rfl⟩
   ·have e:remL (a::l)=remL l+1:=by
     unfold remL
     rw[List.takeWhile_cons,if_pos (by simpa using ha),List.length_cons]
    rw[e] at hi ⊢
    cases i with
    | zero=>exact⟨fun _ _ _=>by omega,fun h=>absurd (h a rfl) ha⟩
    | succ i =>
     obtain⟨h1,h2⟩:=ih i (by omega)
     exact⟨fun c hc hne=>by have:=h1 c (by simpa using hc) hne;omega,fun h=>by have:=h2 (fun c hc=>h c (by simpa using hc));omega⟩
 obtain⟨h1,h2⟩:=key (s.data.toList.drop k) (j-k) (by omega)
 have hat:∀ h:j<s.size,(s.data.toList.drop k)[j-k]?=some s[j]:=fun h=>by
  rw[List.getElem?_drop,show k+(j-k)=j by omega,byte_at s h]
 refine⟨fun h hne=>by have:=h1 _ (hat h) hne;omega,fun h=>?_⟩
 have:=h2 fun c hc=>by
  rcases Nat.lt_or_ge j s.size with hlt|hge
  ·rw[hat hlt] at hc
   rw[← Option.some.inj hc]
   exact h hlt
  ·rw[List.getElem?_drop,List.getElem?_eq_none (by rw[szl];omega)] at hc
   cases hc
 omega
theorem ext_sub (s:ByteArray) (k j:Nat):(s.extract k j).data.toList=(s.data.toList.drop k).take (j-k):=by
 simp only[ByteArray.data_extract,Array.toList_extract,List.extract_eq_take_drop]
theorem quotedX_cons (c:UInt8) (r:List UInt8):quotedX (c::r)=quoR (quo r [] 1):=by rw[quotedX_eq];rfl
theorem wsB_eq (c:UInt8):wsB c=(((c.toNat:Int)==32)||((c.toNat:Int)==9)||((c.toNat:Int)==10)):=by
 unfold wsB
 rw[Bool.eq_iff_iff]
 simp
 omega
noncomputable def wordsLoop:Code:=((Tryz.f26.body.bind (findLoop 3)).getD .skip)
end Go.Proofs.YtdgapmnojmhllaaGreatDoor
