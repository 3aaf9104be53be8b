/- Parts of this proof, one behind the other: LexC, LexD, LexE. -/
import Derived.Test.YtgbgiknfejpcoaaGreatPx28
import Derived.Deep.Cut
set_option maxRecDepth 1000000
set_option maxHeartbeats 40000000
namespace Go.Proofs.YtgbgiknfejpcoaaGreat
open Go.RowKit Go.Afx
theorem ret_word3 {fn:Func} {p u v:Tmp} {tmps:Array Value} {w:World} {g:Nat} {t:TypeId} {cs:Array Value} {x y:Value} (h:fn.results=#[.cell p 150,.tmp u,.tmp v]) (hp:tmps.getD p undef=.pointer (some ⟨g,0,none⟩)) (hk:IsBlk w g t cs) (hz:cs.size=4) (hv:tmps.getD u undef=x) (hy:tmps.getD v undef=y):(results fn tmps).run Tryz.prog w=.ok (.tuple #[.agg cs,x,y]) w:=by
 have h2:=run_loadVar_row (P:=Tryz.prog) w g t 150 cs (0,0) _ hk Tryz.underlying150 rfl (by rw[hz];exact sizeWord)
 simp only[results,h]
 have e1:tmps[p]?.getD undef=.pointer (some ⟨g,0,none⟩):=by simpa using hp
 have e2:tmps[u]?.getD undef=x:=by simpa using hv
 have e3:tmps[v]?.getD undef=y:=by simpa using hy
 simp[Result.andThen,e1,e2,e3,asAddr,h2]
def NextSaid (o:Option Nx) (e:Ending):Prop:=match o with
 | some x=>e=.returned (.tuple #[.agg #[.int .i64 x.kind,.string (str x.text),.int .i64 x.n,.int .i64 0],.int .i64 x.len,.bool true])
 | none=>∃ (k:Int) (t:ByteArray) (m n:Int),e=.returned (.tuple #[.agg #[.int .i64 k,.string t,.int .i64 m,.int .i64 0],.int .i64 n,.bool false])
abbrev u8v (c:UInt8):List Value:=[.int .u8 (c.toNat:Int)]
theorem u8v_flat (l:List UInt8):(l.map u8v).flatten=l.map fun c=>Value.int .u8 (c.toNat:Int):=by
 induction l with
 | nil=>rfl
 | cons c l ih=>rw[List.map_cons,List.flatten_cons,ih];rfl
theorem tyU8:ElemTy Tryz.prog 130 5 1 1 (.int .u8 0):=⟨Tryz.underlying130,by kernel_rfl,rfl,by decide⟩
theorem conv_own {w:World} {base:Nat} {A:Option Addr} {c:Nat} {l:List UInt8} (h:w.ownsRow base 5 1 (.slice A l.length c) l.length (l.map u8v).flatten) :
  (convert 130 9 (.slice A l.length c)).run Tryz.prog w=.ok (.string (str l)) w:=by
 rcases Nat.eq_zero_or_pos l.length with h0|h0
 ·have hl:l=[]:=List.eq_nil_of_length_eq_zero h0
  subst hl
  cases A with
  | none =>
   rw[run_convert_bytes_string w 130 9 5 none _ c Tryz.underlying130 Tryz.underlying5 Tryz.underlying9]
   simp[Conv.bytesToString]
   rfl
  | some a =>
   exact run_convert_bytes_back (P:=Tryz.prog) w 130 9 5 a c [] Tryz.underlying130 Tryz.underlying5 Tryz.underlying9 (fun j hj=>by simp at hj)
 ·obtain⟨g,cap,hv,hb,hg⟩:=h.form h0
  simp only[Value.slice.injEq] at hv
  obtain⟨rfl,_,_⟩:=hv
  exact run_convert_bytes_back (P:=Tryz.prog) w 130 9 5 ⟨g,0,none⟩ c l Tryz.underlying130 Tryz.underlying5 Tryz.underlying9 (fun j hj=>h.cells (g:=g) rfl j _ (by rw[u8v_flat,List.getElem?_map,List.getElem?_eq_getElem hj];rfl))
theorem own_turned {w w':World} {base:Nat} {T:TypeId} {sz:Nat} {A:Option Addr} {n c:Nat} {xs:List Value} (h:w.ownsRow base T sz (.slice A n c) n xs) (hb:But (fun k=>A.map (·.block)=some k) w w') (hB:base≤w.heap.size):Below base w w' :=
 hb.below' hB (fun i hi=>by
  cases A with
  | none=>cases hi
  | some a =>
   have e:a.block=i:=by simpa using hi
   subst e
   exact(h.lt a.block rfl).1)
theorem u8_push (l:List UInt8) (c:UInt8):(l.map u8v++[u8v c])=(l++[c]).map u8v:=by simp
theorem quo_go {c d:UInt8} {r acc:List UInt8} {i:Nat}:quo (c::d::r) acc i=if c.toNat=10 then none else if c.toNat=39 then (if d.toNat=39 then quo r (acc++[39]) (i+2) else some (acc,i+1)) else quo (d::r) (acc++[c]) (i+1):=by rw[quo]
theorem quo_one {c:UInt8} {acc:List UInt8} {i:Nat}:quo [c] acc i=if c.toNat=10 then none else if c.toNat=39 then some (acc,i+1) else none:=by rw[quo]
theorem quo_at {c:UInt8} {r acc:List UInt8} {i:Nat}:(c.toNat=10→quo (c::r) acc i=none)∧(c.toNat≠10→c.toNat≠39→quo (c::r) acc i=quo r (acc++[c]) (i+1)) ∧
  (c.toNat=39→(r.head?=some 39→quo (c::r) acc i=quo (r.drop 1) (acc++[39]) (i+2))∧(r.head?≠some 39→quo (c::r) acc i=some (acc,i+1))):=by
 cases r with
 | nil =>
  rw[quo_one]
  refine⟨fun h=>by rw[if_pos h],fun h1 h2=>by rw[if_neg h1,if_neg h2];rfl,fun h=>⟨fun h2=>by simp at h2,fun _=>by rw[if_neg (by omega),if_pos h]⟩⟩
 | cons d r =>
  rw[quo_go]
  refine⟨fun h=>by rw[if_pos h],fun h1 h2=>by rw[if_neg h1,if_neg h2],fun h=>⟨fun h2=>?_,fun h2=>?_⟩⟩
  ·have e:d=39:=by simpa using h2
   rw[if_neg (by omega),if_pos h,if_pos (by rw[e];rfl)]
   rfl
  ·have e:¬ d.toNat=39:=fun e=>h2 (by rw[← UInt8.toNat_inj.1 (show d.toNat=(39:UInt8).toNat from e)];rfl)
   rw[if_neg (by omega),if_pos h,if_neg e]
theorem lex_laid {w w1 wr:World} (hk:IsBlk wr w.heap.size 150 #[.int .i64 0,.string ⟨#[]⟩,.int .i64 0,.int .i64 0]) (hb1:Below w.heap.size w w1) (hz:w1.heap.size=w.heap.size+1) (hb:Below w1.heap.size w1 wr) (k:Int) (t:ByteArray) (n a:Int) :
  IsBlk ((((wr.setCell ⟨w.heap.size,0,none⟩ (.int .i64 k)).setCell ⟨w.heap.size,1,none⟩ (.string t)).setCell ⟨w.heap.size,2,none⟩ (.int .i64 n)).setCell ⟨w.heap.size,3,none⟩ (.int .i64 a)) w.heap.size 150 #[.int .i64 k,.string t,.int .i64 n,.int .i64 a] ∧
  Below w.heap.size w ((((wr.setCell ⟨w.heap.size,0,none⟩ (.int .i64 k)).setCell ⟨w.heap.size,1,none⟩ (.string t)).setCell ⟨w.heap.size,2,none⟩ (.int .i64 n)).setCell ⟨w.heap.size,3,none⟩ (.int .i64 a)) :=
 ⟨(((hk.stored 0 (.int .i64 k)).stored 1 (.string t)).stored 2 (.int .i64 n)).stored 3 (.int .i64 a),
  ((((hb1.trans (hb.mono (by omega))).setCell (p:=⟨_,0,none⟩) (Nat.le_refl _) _).setCell (p:=⟨_,1,none⟩) (Nat.le_refl _) _).setCell (p:=⟨_,2,none⟩) (Nat.le_refl _) _).setCell (p:=⟨_,3,none⟩) (Nat.le_refl _) _⟩
def quoR:Option (List UInt8×Nat)→Option Nx
 | none=>none
 | some (b,n)=>if b.length≤200 then some ⟨2,b,0,n⟩ else none
theorem quotedX_eq (s:List UInt8):quotedX s=quoR (quo (s.drop 1) [] 1):=by
 unfold quotedX
 cases quo (s.drop 1) [] 1<;>rfl
theorem quoted_any (s:ByteArray) (w:World) (h0:0<s.size) (hs:s.size≤1000000000) :
  Calls Tryz.prog 161 #[.string s] w fun x w'=>NextSaid (quotedX s.data.toList) x∧Below w.heap.size w w':=by
 obtain⟨w1,Hw1⟩:∃ w1,Hid (w1=w.alloc (.cells #[.int .i64 0,.string ⟨#[]⟩,.int .i64 0,.int .i64 0] 150)):=⟨_,rfl⟩
 have hb1:Below w.heap.size w w1:=by rw[Hw1.out];exact(Below.refl _ _).alloc (Nat.le_refl _) _
 have hk1:IsBlk w1 w.heap.size 150 #[.int .i64 0,.string ⟨#[]⟩,.int .i64 0,.int .i64 0]:=by rw[Hw1.out];exact IsBlk.laid _ _ _
 have hz1:w1.heap.size=w.heap.size+1:=by rw[Hw1.out];simp
 obtain⟨m,Hm⟩:∃ m,Hid (m=quo (s.data.toList.drop 1) [] 1):=⟨_,rfl⟩
 have hQ:quotedX s.data.toList=quoR m:=by rw[Hm.out,quotedX_eq]
 generalize quotedX s.data.toList=Q at *
 have HQ:=Lhd hQ
 have Hb1:=Lhd hb1
 have Hk1:=Lhd hk1
 have Hz1:=Lhd hz1
 clear hQ hb1 hk1 hz1
 go_enter Tryz.func161,Tryz.ntmps161
 go_upto_region 1 with (fail)
 rw[← Hw1.out]
 go_wp2
 go_loopw [5,6] (fun b i wr=>∃ (k:Nat) (l:List UInt8) (A:Option Addr) (c:Nat),1≤k∧k≤s.size∧i=.int .i64 k∧b=.slice A l.length c∧wr.ownsRow w1.heap.size 5 1 (.slice A l.length c) l.length (l.map u8v).flatten∧l.length≤k∧Hid (m=quo (s.data.toList.drop k) l k)∧Below w1.heap.size w1 wr) (fun _ i _=>s.size-(intOf i).toNat)
 case atStart=>exact⟨1,[],none,0,Nat.le_refl _,h0,rfl,rfl,World.ownsRow_nil _ _ _ _,by simp,Hm,Below.refl _ _⟩
 case round =>
  obtain⟨k,l,A,c,hk1,hk,rfl,rfl,hown,hll,HF,hb⟩:=hrel
  have hkr:=Hk1.out.as_was (hb.block _ Hk1.out.lt)
  obtain⟨c0,c1,c2,c3,clt⟩:=cells4 hkr
  have hfz:=hkr.frozen
  have hcvo:=conv_own hown
  have Hkr:=Lhd hkr
  have Hown:=Lhd hown
  have Hb:=Lhd hb
  have Hfin:=Lhd (fun (k0:Int) (t0:ByteArray) (n0 a0:Int)=>lex_laid Hkr.out Hb1.out Hz1.out Hb.out k0 t0 n0 a0)
  clear hkr hown hb
  rcases Nat.lt_or_ge k s.size with hlt|hge
  ·have hd:=drop_at s k hlt
   obtain⟨q1,q2,q3⟩:=quo_at (c:=s[k]) (r:=s.data.toList.drop (k+1)) (acc:=l) (i:=k)
   rw[← hd] at q1 q2 q3
   rw[← HF.out] at q1 q2 q3
   have hnx:∀ h:k+1<s.size,(s.data.toList.drop (k+1)).head?=some s[k+1]:=fun h=>by rw[drop_at s (k+1) h];rfl
   have hnx2:s.size≤k+1→(s.data.toList.drop (k+1)).head?=none:=fun h=>by rw[List.drop_eq_nil_of_le (by rw[szl];omega)];rfl
   rw[List.drop_drop] at q3
   have hex:∀ c:UInt8,RowsAt (wr.alloc (.cells #[.int .u8 (c.toNat:Int)] 5)) 1 (some ⟨wr.heap.size,0,none⟩) 1 1 [u8v c]:=fun c=>RowsAt.lit' _ _ 1 rfl rfl (by simp) rfl (by unfold maxLen;omega)
   have hal:∀ c:UInt8,Below wr.heap.size wr (wr.alloc (.cells #[.int .u8 (c.toNat:Int)] 5)):=fun c=>(Below.refl _ _).alloc (Nat.le_refl _) _
   have Hex:=Lhd hex
   have Hal:=Lhd hal
   have hmx:l.length+1≤maxLen:=by unfold maxLen;omega
   have hby:(l.length+1)*1≤140737488355328:=by omega
   have Hmx:=Lhd (And.intro hmx hby)
   have Hq1:=Lhd q1
   have Hq2:=Lhd q2
   have Hq3:=Lhd q3
   have Hll:=Lhd hll
   have Hlt:=Lhd hlt
   clear q1 q2 q3 hd hmx hby hex hal hll
   rcases Classical.em (s[k].toNat=10) with e10|e10
   ·have b1:((s[k].toNat:Int)==10)=true:=by rw[beq_iff_eq];omega
    have hm:=Hq1.out e10
    have hq:=HQ.out
    rw[hm] at hq
    have HQ':=Lhd hq
    clear e10 hm hq hnx hnx2 hcvo
    go_wp2
    refine bodyPost_ret (ret_word3 Tryz.results161 rfl (Hfin.out 0 ⟨#[]⟩ 0 0).1 rfl rfl rfl) rfl ⟨?_,(Hfin.out 0 ⟨#[]⟩ 0 0).2⟩
    rw[HQ'.out]
    exact⟨_,_,_,_,rfl⟩
   ·have b1:((s[k].toNat:Int)==10)=false:=by rw[beq_eq_false_iff_ne];omega
    rcases Classical.em (s[k].toNat=39) with e39|e39
    ·have b2:((s[k].toNat:Int) !=39)=false:=by simp;omega
     obtain⟨q4,q5⟩:=Hq3.out e39
     rcases Classical.em (∃ h:k+1<s.size,s[k+1].toNat=39) with e3|e3
     ·obtain⟨h3,e3⟩:=e3
      have b3:((s[k+1].toNat:Int)==39)=true:=by rw[beq_iff_eq];omega
      have hm:=q4 (by rw[hnx h3,← UInt8.toNat_inj.1 (show s[k+1].toNat=(39:UInt8).toNat from e3)])
      have HF2:=Lhd hm
      clear e10 e39 e3 q4 q5 hm hnx hnx2 hcvo
      have hown2:=own_below Hown.out (Hal.out 39)
      have Hown2:=Lhd hown2
      clear hown2
      go_wp2_with (at_builtin;refine wpList_app (base:=w1.heap.size) (xs:=l.map u8v) (news:=[u8v 39]) rfl rfl tyU8 rfl Hown2.out rfl (Hex.out 39) (by simp) (by simp[Value.oneCell']) Hmx.out.1 Hmx.out.2 (by (have:=Hb.out.size;simp;omega)) ?_;intro A6 c6 w6 hown6 hbut6 hf6)
      rw[u8_push] at hown6
      have hb6:=(Hb.out.trans ((Hal.out 39).mono Hb.out.size)).trans (own_turned Hown2.out hbut6 (by have:=Hb.out.size;simp;omega))
      go_roundw
      case rel=>exact⟨k+2,l++[39],A6,c6,by omega,by omega,by go_num,by simp,by simpa using hown6,by have:=Hll.out;simp;omega,HF2,hb6⟩
      case measure=>simp[intOf];omega
     ·have hm:=q5 (fun e=>e3 (by
       rcases Nat.lt_or_ge (k+1) s.size with h|h
       ·rw[hnx h] at e
        exact⟨h,by rw[Option.some.inj e];rfl⟩
       ·rw[hnx2 h] at e;cases e))
      have hq:=HQ.out
      rw[hm] at hq
      simp only[quoR] at hq
      have hnx3:¬ (k+1<s.size)∨∃ h:k+1<s.size,((s[k+1].toNat:Int)==39)=false:=by
       rcases Nat.lt_or_ge (k+1) s.size with h|h
       ·exact .inr ⟨h,by rw[beq_eq_false_iff_ne];exact fun e=>e3 ⟨h,by omega⟩⟩
       ·exact .inl (by omega)
      have HQ':=Lhd hq
      have hfin:∀ b:Bool,b=decide (l.length≤200)→NextSaid Q (.returned (.tuple #[.agg #[.int .i64 2,.string (str l),.int .i64 0,.int .i64 0],.int .i64 ((k+1:Nat):Int),.bool b])):=fun b hb=>by
       rw[HQ'.out]
       rcases Classical.em (l.length≤200) with h|h
       ·rw[if_pos h,hb,decide_eq_true h];rfl
       ·rw[if_neg h,hb,decide_eq_false h];exact⟨_,_,_,_,rfl⟩
      have Hfn:=Lhd hfin
      clear e10 e39 e3 q4 q5 hm hnx hnx2 hq hfin
      rcases hnx3 with h3|⟨h3,b3⟩
      ·rcases Classical.em ((l.length:Int)≤200) with h200|h200
       ·go_wp2
        refine bodyPost_ret (ret_word3 Tryz.results161 rfl (Hfin.out 2 (str l) 0 0).1 rfl rfl rfl) rfl ⟨Hfn.out _ (by simp;omega),(Hfin.out 2 (str l) 0 0).2⟩
       ·go_wp2
        refine bodyPost_ret (ret_word3 Tryz.results161 rfl (Hfin.out 2 (str l) 0 0).1 rfl rfl rfl) rfl ⟨Hfn.out _ (by simp;omega),(Hfin.out 2 (str l) 0 0).2⟩
      ·rcases Classical.em ((l.length:Int)≤200) with h200|h200
       ·go_wp2
        refine bodyPost_ret (ret_word3 Tryz.results161 rfl (Hfin.out 2 (str l) 0 0).1 rfl rfl rfl) rfl ⟨Hfn.out _ (by simp;omega),(Hfin.out 2 (str l) 0 0).2⟩
       ·go_wp2
        refine bodyPost_ret (ret_word3 Tryz.results161 rfl (Hfin.out 2 (str l) 0 0).1 rfl rfl rfl) rfl ⟨Hfn.out _ (by simp;omega),(Hfin.out 2 (str l) 0 0).2⟩
    ·have b2:((s[k].toNat:Int) !=39)=true:=by simp;omega
     have hm:=Hq2.out e10 e39
     have HF2:=Lhd hm
     clear e10 e39 hm hnx hnx2 hcvo
     have hown2:=own_below Hown.out (Hal.out s[k])
     have Hown2:=Lhd hown2
     clear hown2
     go_wp2_with (at_builtin;refine wpList_app (base:=w1.heap.size) (xs:=l.map u8v) (news:=[u8v s[k]]) rfl rfl tyU8 rfl Hown2.out rfl (Hex.out _) (by simp) (by simp[Value.oneCell']) Hmx.out.1 Hmx.out.2 (by (have:=Hb.out.size;simp;omega)) ?_;intro A6 c6 w6 hown6 hbut6 hf6)
     rw[u8_push] at hown6
     have hb6:=(Hb.out.trans ((Hal.out s[k]).mono Hb.out.size)).trans (own_turned Hown2.out hbut6 (by have:=Hb.out.size;simp;omega))
     go_roundw
     case rel=>exact⟨k+1,l++[s[k]],A6,c6,by omega,by omega,by go_num,by simp,by simpa using hown6,by have:=Hll.out;simp;omega,HF2,hb6⟩
     case measure=>simp[intOf];omega
  ·have hm:m=none:=by
    rw[HF.out,List.drop_eq_nil_of_le (by rw[szl];omega)]
    rfl
   have hq:=HQ.out
   rw[hm] at hq
   have HQ':=Lhd hq
   clear hq hm hcvo
   go_wp2
   refine bodyPost_ret (ret_word3 Tryz.results161 rfl (Hfin.out 0 ⟨#[]⟩ 0 0).1 rfl rfl rfl) rfl ⟨?_,(Hfin.out 0 ⟨#[]⟩ 0 0).2⟩
   rw[HQ'.out]
   exact⟨_,_,_,_,rfl⟩
theorem pre_list (s:ByteArray) (k:Nat):(s.extract 0 k).data.toList=s.data.toList.take k:=by
 simp only[ByteArray.data_extract,Array.toList_extract,List.extract_eq_take_drop]
 simp
theorem tw_at {l:List UInt8} {k:Nat} (hk:k≤l.length) (h:∀ y∈l.take k,lexB y=true) (hs:∀ y,l[k]?=some y→lexB y=false):l.takeWhile lexB=l.take k:=by
 induction l generalizing k with
 | nil=>simp
 | cons c r ih =>
  cases k with
  | zero =>
   have:=hs c rfl
   rw[List.takeWhile_cons,if_neg (by rw[this];decide)]
   rfl
  | succ k =>
   rw[List.takeWhile_cons,if_pos (h c (by simp)),List.take_succ_cons]
   rw[ih (k:=k) (by simpa using hk) (fun y hy=>h y (by simp[hy])) (fun y hy=>hs y (by simpa using hy))]
theorem num_said {t:List UInt8} {v e:Int} (hd:t.head?.any dgB=true) (h:NumSaid t v e) (s:List UInt8) (ht:s.takeWhile lexB=t) (b:Bool) (hb:b=decide (e=0)) :
  NextSaid (plainX s) (.returned (.tuple #[.agg #[.int .i64 1,.string (str t),.int .i64 v,.int .i64 0],.int .i64 t.length,.bool b])):=by
 unfold plainX
 rw[ht,if_pos hd]
 unfold NumSaid at h
 cases hp:parseN t with
 | none =>
  rw[hp] at h
  rw[hb,decide_eq_false (by omega)]
  exact⟨_,_,_,_,rfl⟩
 | some n =>
  rw[hp] at h
  obtain⟨rfl,rfl⟩:=h
  rw[hb]
  rfl
theorem name_said {t:List UInt8} (hd:t.head?.any dgB=false) (s:List UInt8) (ht:s.takeWhile lexB=t) :
  NextSaid (plainX s) (.returned (.tuple #[.agg #[.int .i64 3,.string (str t),.int .i64 0,.int .i64 0],.int .i64 t.length,.bool (namedB (str t))])):=by
 unfold plainX
 rw[ht,if_neg (by rw[hd];decide)]
 cases namedB (str t) with
 | true=>rfl
 | false=>exact⟨_,_,_,_,rfl⟩
theorem plain_any (s:ByteArray) (w:World) (h0:0<s.size) (hc:lexB s[0]=true) (hs:s.size≤1000000000) :
  Calls Tryz.prog 160 #[.string s] w fun x w'=>NextSaid (plainX s.data.toList) x∧Below w.heap.size w w':=by
 obtain⟨w1,Hw1⟩:∃ w1,Hid (w1=w.alloc (.cells #[.int .i64 0,.string ⟨#[]⟩,.int .i64 0,.int .i64 0] 150)):=⟨_,rfl⟩
 have hb1:Below w.heap.size w w1:=by rw[Hw1.out];exact(Below.refl _ _).alloc (Nat.le_refl _) _
 have hk1:IsBlk w1 w.heap.size 150 #[.int .i64 0,.string ⟨#[]⟩,.int .i64 0,.int .i64 0]:=by rw[Hw1.out];exact IsBlk.laid _ _ _
 have hz1:w1.heap.size=w.heap.size+1:=by rw[Hw1.out];simp
 have Hb1:=Lhd hb1
 have Hk1:=Lhd hk1
 have Hz1:=Lhd hz1
 have Hc:=Lhd hc
 have hst:=drop_at s 0 h0
 rw[List.drop_zero] at hst
 have Hst:=Lhd hst
 clear hb1 hk1 hz1 hc hst
 go_enter Tryz.func160,Tryz.ntmps160
 go_upto_region 1 with (fail)
 rw[← Hw1.out]
 go_wp2
 go_loop [5] (fun i=>∃ k:Nat,k≤s.size∧i=.int .i64 k∧Hid (∀ y∈s.data.toList.take k,lexB y=true)) (fun i=>s.size-(intOf i).toNat)
 case atStart=>exact⟨0,Nat.zero_le _,rfl,Lhd (by simp)⟩
 case round =>
  obtain⟨k,hk,rfl,HA⟩:=hrel
  have hend:(k<s.size→∀ h:k<s.size,lexB s[k]=false)→0<k∧s.data.toList.takeWhile lexB=s.data.toList.take k:=fun h=>by
   have h2:∀ y,s.data.toList[k]?=some y→lexB y=false:=fun y hy=>by
    have hlt:k<s.size:=by have:=(List.getElem?_eq_some_iff.1 hy).1;rwa [szl] at this
    have:=h hlt hlt
    rw[List.getElem?_eq_getElem (by rw[szl];exact hlt)] at hy
    rw[← Option.some.inj hy]
    exact this
   refine⟨?_,tw_at (by rw[szl];exact hk) HA.out h2⟩
   rcases Nat.eq_zero_or_pos k with e|e
   ·subst e
    have:=h h0 h0
    rw[Hc.out] at this
    cases this
   ·exact e
  rcases Nat.lt_or_ge k s.size with hlt|hge
  ·have hp:=lexPart_any s[k] w1
   obtain⟨q,hq⟩:∃ q,lexB s[k]=q:=⟨_,rfl⟩
   rw[hq] at hp
   have Hp:=Lhd hp
   cases q with
   | true =>
    have hnx:∀ y∈s.data.toList.take (k+1),lexB y=true:=by
     rw[take_one (List.getElem?_eq_getElem (by rw[szl];exact hlt))]
     intro y hy
     rcases List.mem_append.1 hy with hy|hy
     ·exact HA.out y hy
     ·simp only[List.mem_singleton] at hy;subst hy;exact hq
    have Hnx:=Lhd hnx
    clear hp hq hend hnx
    go_wp2_with (fail)
    refine Hp.out.mono ?_
    rintro e w' ⟨rfl,rfl⟩
    go_wp2
    go_round
    case rel=>exact⟨k+1,by omega,by go_num,Hnx⟩
    case measure=>simp[intOf];omega
   | false =>
    have He:=Lhd (hend (fun _ _=>hq))
    clear hp hq hend
    go_wp2_with (fail)
    refine Hp.out.mono ?_
    rintro e w' ⟨rfl,rfl⟩
    go_upto_region 5 with (fail)
    obtain⟨t,Ht⟩:∃ t,Hid (t=s.extract 0 k):=⟨_,rfl⟩
    rw[← Ht.out]
    have htl:t.data.toList=s.data.toList.takeWhile lexB:=by rw[Ht.out,pre_list,He.out.2]
    have htz:t.size=k:=by rw[← szl t,Ht.out,pre_list,List.length_take,szl];omega
    have h0t:0<t.size:=by rw[htz];exact He.out.1
    have htd:=drop_at t 0 h0t
    rw[List.drop_zero] at htd
    have hstr:str t.data.toList=t:=rfl
    have hk1:=Hk1.out
    obtain⟨c0,c1,c2,c3,clt⟩:=cells4 hk1
    have hfz:=hk1.frozen
    have Hfin:=Lhd (fun (wr:World) (hb:Below w1.heap.size w1 wr) (k0:Int) (t0:ByteArray) (n0 a0:Int)=>lex_laid (Hk1.out.as_was (hb.block _ Hk1.out.lt)) Hb1.out Hz1.out hb k0 t0 n0 a0)
    have hlen:s.data.toList.takeWhile lexB=t.data.toList∧(t.data.toList.length:Int)=k:=⟨htl.symm,by rw[szl,htz]⟩
    have Hlen:=Lhd hlen
    clear hk1 c0 c1 c2 c3 clt hfz
    cases hd:dgB t[0] with
    | true =>
     have hdh:t.data.toList.head?.any dgB=true:=by rw[htd];simpa using hd
     have hcp:=calcParse_any t w1 h0t (by omega) hd
     have hdc:48≤t[0].toNat∧t[0].toNat≤57:=by simpa [dgB] using hd
     obtain⟨e1,e2⟩:=hdc
     have Hcp:=Lhd hcp
     have Hdh:=Lhd hdh
     clear hcp hdh hd htd htl hlen hstr htz
     go_wp2_with (fail)
     refine Hcp.out.mono ?_
     rintro e w2 ⟨⟨v,er,rfl,hN⟩,hb2⟩
     have hk2:=Hk1.out.as_was (hb2.block _ Hk1.out.lt)
     obtain⟨c0,c1,c2,c3,clt⟩:=cells4 hk2
     have hfz:=hk2.frozen
     have HN:=Lhd (fun b hb=>num_said Hdh.out hN s.data.toList Hlen.out.1 b hb)
     have Hb2:=Lhd hb2
     clear hN hb2 hk2
     rcases Classical.em (er=0) with her|her
     ·have b5:(er==0)=true:=by rw[beq_iff_eq];exact her
      have HN2:=Lhd (HN.out true (by rw[decide_eq_true her]))
      clear her
      go_wp2
      refine bodyPost_ret (ret_word3 Tryz.results160 rfl (Hfin.out w2 Hb2.out 1 t v 0).1 rfl rfl rfl) rfl ⟨?_,(Hfin.out w2 Hb2.out 1 t v 0).2⟩
      have hlast:=HN2.out
      rw[Hlen.out.2] at hlast
      exact hlast
     ·have b5:(er==0)=false:=by rw[beq_eq_false_iff_ne];exact her
      have HN2:=Lhd (HN.out false (by rw[decide_eq_false her]))
      clear her
      go_wp2
      refine bodyPost_ret (ret_word3 Tryz.results160 rfl (Hfin.out w2 Hb2.out 1 t v 0).1 rfl rfl rfl) rfl ⟨?_,(Hfin.out w2 Hb2.out 1 t v 0).2⟩
      have hlast:=HN2.out
      rw[Hlen.out.2] at hlast
      exact hlast
    | false =>
     have hdh:t.data.toList.head?.any dgB=false:=by rw[htd];simpa using hd
     have hal:=(Below.refl w1.heap.size w1).alloc (Nat.le_refl _) (.cells #[.string t] 9)
     have hcp:=namedL_any (fun _=>True) (some ⟨w1.heap.size,0,none⟩) 1 1 [t] (w1.alloc (.cells #[.string t] 9)) ⟨[[.string t]],RowsAt.lit' _ _ 1 rfl rfl (by simp) rfl (by unfold maxLen;omega),fun _ _ _=>trivial,rfl,fun i r x hr hx=>by
      rcases i with _|i
      ·simp at hr hx;subst hr hx;exact⟨rfl,rfl,by unfold okS;omega⟩
      ·simp at hr⟩
     have e6:[t].all namedB=namedB t:=by simp
     rw[e6] at hcp
     have hN:=name_said hdh s.data.toList htl.symm
     rw[hstr] at hN
     have hdc:t[0].toNat<48∨57<t[0].toNat:=by
      rcases Nat.lt_or_ge t[0].toNat 48 with h|h
      ·exact .inl h
      ·right
       have h2:¬ (48≤t[0].toNat∧t[0].toNat≤57):=fun h3=>by
        have h4:dgB t[0]=true:=by simp[dgB,h3]
        rw[hd] at h4;cases h4
       omega
     have Hcp:=Lhd hcp
     have Hal:=Lhd hal
     have HN:=Lhd hN
     clear hcp hdh hd htd htl hlen hal hN hstr e6 htz
     rcases hdc with e1|e1
     all_goals
      go_wp2_with (fail)
      refine Hcp.out.mono ?_
      rintro e w2 ⟨rfl,hb2⟩
      have hb12:=Hal.out.trans (hb2.mono Hal.out.size)
      have hk2:=Hk1.out.as_was (hb12.block _ Hk1.out.lt)
      obtain⟨c0,c1,c2,c3,clt⟩:=cells4 hk2
      have hfz:=hk2.frozen
      have Hb2:=Lhd hb12
      clear hb2 hk2 hb12
      go_wp2
      refine bodyPost_ret (ret_word3 Tryz.results160 rfl (Hfin.out w2 Hb2.out 3 t 0 0).1 rfl rfl rfl) rfl ⟨?_,(Hfin.out w2 Hb2.out 3 t 0 0).2⟩
      have hlast:=HN.out
      rw[Hlen.out.2] at hlast
      exact hlast
  ·have He:=Lhd (hend (fun h=>by omega))
   clear hend
   go_upto_region 5 with (fail)
   obtain⟨t,Ht⟩:∃ t,Hid (t=s.extract 0 k):=⟨_,rfl⟩
   rw[← Ht.out]
   have htl:t.data.toList=s.data.toList.takeWhile lexB:=by rw[Ht.out,pre_list,He.out.2]
   have htz:t.size=k:=by rw[← szl t,Ht.out,pre_list,List.length_take,szl];omega
   have h0t:0<t.size:=by rw[htz];exact He.out.1
   have htd:=drop_at t 0 h0t
   rw[List.drop_zero] at htd
   have hstr:str t.data.toList=t:=rfl
   have hk1:=Hk1.out
   obtain⟨c0,c1,c2,c3,clt⟩:=cells4 hk1
   have hfz:=hk1.frozen
   have Hfin:=Lhd (fun (wr:World) (hb:Below w1.heap.size w1 wr) (k0:Int) (t0:ByteArray) (n0 a0:Int)=>lex_laid (Hk1.out.as_was (hb.block _ Hk1.out.lt)) Hb1.out Hz1.out hb k0 t0 n0 a0)
   have hlen:s.data.toList.takeWhile lexB=t.data.toList∧(t.data.toList.length:Int)=k:=⟨htl.symm,by rw[szl,htz]⟩
   have Hlen:=Lhd hlen
   clear hk1 c0 c1 c2 c3 clt hfz
   cases hd:dgB t[0] with
   | true =>
    have hdh:t.data.toList.head?.any dgB=true:=by rw[htd];simpa using hd
    have hcp:=calcParse_any t w1 h0t (by omega) hd
    have hdc:48≤t[0].toNat∧t[0].toNat≤57:=by simpa [dgB] using hd
    obtain⟨e1,e2⟩:=hdc
    have Hcp:=Lhd hcp
    have Hdh:=Lhd hdh
    clear hcp hdh hd htd htl hlen hstr htz
    go_wp2_with (fail)
    refine Hcp.out.mono ?_
    rintro e w2 ⟨⟨v,er,rfl,hN⟩,hb2⟩
    have hk2:=Hk1.out.as_was (hb2.block _ Hk1.out.lt)
    obtain⟨c0,c1,c2,c3,clt⟩:=cells4 hk2
    have hfz:=hk2.frozen
    have HN:=Lhd (fun b hb=>num_said Hdh.out hN s.data.toList Hlen.out.1 b hb)
    have Hb2:=Lhd hb2
    clear hN hb2 hk2
    rcases Classical.em (er=0) with her|her
    ·have b5:(er==0)=true:=by rw[beq_iff_eq];exact her
     have HN2:=Lhd (HN.out true (by rw[decide_eq_true her]))
     clear her
     go_wp2
     refine bodyPost_ret (ret_word3 Tryz.results160 rfl (Hfin.out w2 Hb2.out 1 t v 0).1 rfl rfl rfl) rfl ⟨?_,(Hfin.out w2 Hb2.out 1 t v 0).2⟩
     have hlast:=HN2.out
     rw[Hlen.out.2] at hlast
     exact hlast
    ·have b5:(er==0)=false:=by rw[beq_eq_false_iff_ne];exact her
     have HN2:=Lhd (HN.out false (by rw[decide_eq_false her]))
     clear her
     go_wp2
     refine bodyPost_ret (ret_word3 Tryz.results160 rfl (Hfin.out w2 Hb2.out 1 t v 0).1 rfl rfl rfl) rfl ⟨?_,(Hfin.out w2 Hb2.out 1 t v 0).2⟩
     have hlast:=HN2.out
     rw[Hlen.out.2] at hlast
     exact hlast
   | false =>
    have hdh:t.data.toList.head?.any dgB=false:=by rw[htd];simpa using hd
    have hal:=(Below.refl w1.heap.size w1).alloc (Nat.le_refl _) (.cells #[.string t] 9)
    have hcp:=namedL_any (fun _=>True) (some ⟨w1.heap.size,0,none⟩) 1 1 [t] (w1.alloc (.cells #[.string t] 9)) ⟨[[.string t]],RowsAt.lit' _ _ 1 rfl rfl (by simp) rfl (by unfold maxLen;omega),fun _ _ _=>trivial,rfl,fun i r x hr hx=>by
     rcases i with _|i
     ·simp at hr hx;subst hr hx;exact⟨rfl,rfl,by unfold okS;omega⟩
     ·simp at hr⟩
    have e6:[t].all namedB=namedB t:=by simp
    rw[e6] at hcp
    have hN:=name_said hdh s.data.toList htl.symm
    rw[hstr] at hN
    have hdc:t[0].toNat<48∨57<t[0].toNat:=by
     rcases Nat.lt_or_ge t[0].toNat 48 with h|h
     ·exact .inl h
     ·right
      have h2:¬ (48≤t[0].toNat∧t[0].toNat≤57):=fun h3=>by
       have h4:dgB t[0]=true:=by simp[dgB,h3]
       rw[hd] at h4;cases h4
      omega
    have Hcp:=Lhd hcp
    have Hal:=Lhd hal
    have HN:=Lhd hN
    clear hcp hdh hd htd htl hlen hal hN hstr e6 htz
    rcases hdc with e1|e1
    all_goals
     go_wp2_with (fail)
     refine Hcp.out.mono ?_
     rintro e w2 ⟨rfl,hb2⟩
     have hb12:=Hal.out.trans (hb2.mono Hal.out.size)
     have hk2:=Hk1.out.as_was (hb12.block _ Hk1.out.lt)
     obtain⟨c0,c1,c2,c3,clt⟩:=cells4 hk2
     have hfz:=hk2.frozen
     have Hb2:=Lhd hb12
     clear hb2 hk2 hb12
     go_wp2
     refine bodyPost_ret (ret_word3 Tryz.results160 rfl (Hfin.out w2 Hb2.out 3 t 0 0).1 rfl rfl rfl) rfl ⟨?_,(Hfin.out w2 Hb2.out 3 t 0 0).2⟩
     have hlast:=HN.out
     rw[Hlen.out.2] at hlast
     exact hlast
theorem signs_any (w:World):Calls Tryz.prog 162 #[] w fun x w'=>(∃ A c,x=.returned (.slice A 21 c)∧TxsAt w' A 21 c (signsL.map str))∧Below w.heap.size w w':=by
 have hT:=TxsAt.lit (w:=w) (g:=w.heap.size) 9 (signsL.map str) 21 rfl (by simp[signsL]) (by omega)
 have hb:=(Below.refl w.heap.size w).alloc (Nat.le_refl _) (.cells ((signsL.map str).map Value.string).toArray 9)
 have HT:=Lhd (And.intro hT hb)
 clear hT hb
 go_enter Tryz.func162,Tryz.ntmps162
 go_wp2
 go_ret
 exact⟨⟨_,_,rfl,HT.out.1⟩,HT.out.2⟩
theorem find_step {l:List (List UInt8)} {k:Nat} {g s:List UInt8} (hg:l[k]?=some g):(g.isPrefixOf s=true→(l.drop k).find? (fun g=>g.isPrefixOf s)=some g)∧(g.isPrefixOf s=false→(l.drop k).find? (fun g=>g.isPrefixOf s)=(l.drop (k+1)).find? (fun g=>g.isPrefixOf s)):=by
 have hlt:=(List.getElem?_eq_some_iff.1 hg).1
 have e:l.drop k=g::l.drop (k+1):=by
  rw[List.drop_eq_getElem_cons hlt,(List.getElem?_eq_some_iff.1 hg).2]
 rw[e]
 exact⟨fun h=>by simp[h],fun h=>by simp[h]⟩
theorem said_cell {o:Option Nx} {e:Ending} (h:NextSaid o e):∃ (k:Int) (t:ByteArray) (n m:Int) (b:Bool),e=.returned (.tuple #[.agg #[.int .i64 k,.string t,.int .i64 n,.int .i64 0],.int .i64 m,.bool b]):=by
 cases o with
 | none=>obtain⟨k,t,m,n,rfl⟩:=h;exact⟨_,_,_,_,_,rfl⟩
 | some x=>exact⟨_,_,_,_,_,h⟩
theorem next_any (s:ByteArray) (w:World) (h0:0<s.size) (hs:s.size≤1000000000) :
  Calls Tryz.prog 108 #[.string s] w fun x w'=>NextSaid (nextX s.data.toList) x∧Below w.heap.size w w':=by
 obtain⟨w1,Hw1⟩:∃ w1,Hid (w1=w.alloc (.cells #[.int .i64 0,.string ⟨#[]⟩,.int .i64 0,.int .i64 0] 150)):=⟨_,rfl⟩
 have hb1:Below w.heap.size w w1:=by rw[Hw1.out];exact(Below.refl _ _).alloc (Nat.le_refl _) _
 have hk1:IsBlk w1 w.heap.size 150 #[.int .i64 0,.string ⟨#[]⟩,.int .i64 0,.int .i64 0]:=by rw[Hw1.out];exact IsBlk.laid _ _ _
 have hz1:w1.heap.size=w.heap.size+1:=by rw[Hw1.out];simp
 have Hb1:=Lhd hb1
 have Hk1:=Lhd hk1
 have Hz1:=Lhd hz1
 have hst:=drop_at s 0 h0
 rw[List.drop_zero] at hst
 have hhd:s.data.toList.head?=some s[0]:=by rw[hst];rfl
 have hp:=lexPart_any s[0] w1
 have hpl:=fun hc=>plain_any s w1 h0 hc hs
 have hqu:=quoted_any s w1 h0 hs
 have hN:nextX s.data.toList=if lexB s[0] then plainX s.data.toList else if s[0].toNat=39 then quotedX s.data.toList else signX s.data.toList:=by
  unfold nextX
  rw[hhd]
  simp
 have Hfin:=Lhd (fun (wr:World) (hb:Below w1.heap.size w1 wr) (k0:Int) (t0:ByteArray) (n0 a0:Int)=>lex_laid (Hk1.out.as_was (hb.block _ Hk1.out.lt)) Hb1.out Hz1.out hb k0 t0 n0 a0)
 clear hb1 hk1 hz1 hhd hst
 obtain⟨q,hq⟩:∃ q,lexB s[0]=q:=⟨_,rfl⟩
 rw[hq] at hp hN
 have Hp:=Lhd hp
 have Hqu:=Lhd hqu
 cases q with
 | true =>
  have Hpl:=Lhd (hpl hq)
  rw[if_pos rfl] at hN
  rw[hN]
  clear hN hp hpl hqu hq
  go_enter Tryz.func108,Tryz.ntmps108
  go_upto_region 1 with (fail)
  rw[← Hw1.out]
  go_wp2_with (fail)
  refine Hp.out.mono ?_
  rintro e w' ⟨rfl,rfl⟩
  go_wp2_with (fail)
  refine Hpl.out.mono ?_
  rintro e w2 ⟨hS,hb2⟩
  obtain⟨k,t,n,m,b,rfl⟩:=said_cell hS
  have hk2:=Hk1.out.as_was (hb2.block _ Hk1.out.lt)
  obtain⟨c0,c1,c2,c3,clt⟩:=cells4 hk2
  have hfz:=hk2.frozen
  have HS:=Lhd hS
  have Hb2:=Lhd hb2
  clear hS hk2 hb2
  go_wp2
  exact bodyPost_ret (ret_word3 Tryz.results108 rfl (Hfin.out _ Hb2.out k t n 0).1 rfl rfl rfl) rfl ⟨HS.out,(Hfin.out _ Hb2.out k t n 0).2⟩
 | false =>
  rw[if_neg (by decide)] at hN
  rcases Classical.em (s[0].toNat=39) with e39|e39
  ·rw[if_pos e39] at hN
   rw[hN]
   have b1:((s[0].toNat:Int)==39)=true:=by rw[beq_iff_eq];omega
   clear hN hp hpl hqu hq e39
   go_enter Tryz.func108,Tryz.ntmps108
   go_upto_region 1 with (fail)
   rw[← Hw1.out]
   go_wp2_with (fail)
   refine Hp.out.mono ?_
   rintro e w' ⟨rfl,rfl⟩
   go_wp2_with (fail)
   refine Hqu.out.mono ?_
   rintro e w2 ⟨hS,hb2⟩
   obtain⟨k,t,n,m,b,rfl⟩:=said_cell hS
   have hk2:=Hk1.out.as_was (hb2.block _ Hk1.out.lt)
   obtain⟨c0,c1,c2,c3,clt⟩:=cells4 hk2
   have hfz:=hk2.frozen
   have HS:=Lhd hS
   have Hb2:=Lhd hb2
   clear hS hk2 hb2
   go_wp2
   exact bodyPost_ret (ret_word3 Tryz.results108 rfl (Hfin.out _ Hb2.out k t n 0).1 rfl rfl rfl) rfl ⟨HS.out,(Hfin.out _ Hb2.out k t n 0).2⟩
  ·rw [if_neg e39] at hN
   rw[hN]
   have b1:((s[0].toNat:Int)==39)=false:=by rw[beq_eq_false_iff_ne];omega
   obtain⟨m,Hm⟩:∃ m,Hid (m=signX s.data.toList):=⟨_,rfl⟩
   rw[← Hm.out]
   have Hsg:=Lhd (signs_any w1)
   clear hN hp hpl hqu hq e39
   go_enter Tryz.func108,Tryz.ntmps108
   go_upto_region 1 with (fail)
   rw[← Hw1.out]
   go_wp2_with (fail)
   refine Hp.out.mono ?_
   rintro e w' ⟨rfl,rfl⟩
   go_wp2_with (fail)
   refine Hsg.out.mono ?_
   rintro e w2 ⟨⟨A,c,rfl,hT⟩,hb2⟩
   have hk2:=Hk1.out.as_was (hb2.block _ Hk1.out.lt)
   obtain⟨c0,c1,c2,c3,clt⟩:=cells4 hk2
   have hfz:=hk2.frozen
   have HT:=Lhd hT
   have Hb2:=Lhd hb2
   clear hT hk2 hb2
   go_wp2
   go_loop [27] (fun i=>∃ k:Nat,k≤21∧i=.int .i64 k∧Hid (m=((signsL.drop k).find? fun g=>g.isPrefixOf s.data.toList).map fun g=>⟨0,g,0,g.length⟩)) (fun i=>21-(intOf i).toNat)
   case atStart=>exact⟨0,by omega,rfl,Hm⟩
   case round =>
    obtain⟨k,hk,rfl,HF⟩:=hrel
    rcases Nat.lt_or_ge k 21 with hlt|hge
    ·obtain⟨b,o,x,rfl,hbl,hx,hcl⟩:=HT.out.get (k:=k) hlt
     rw[List.getElem?_map] at hx
     obtain⟨g,hg⟩:∃ g,signsL[k]?=some g:=⟨_,List.getElem?_eq_getElem (by simp[signsL];omega)⟩
     rw[hg] at hx
     have hx:str g=x:=by simpa using hx
     subst hx
     have hpf:=Tryz.strings_HasPrefix s (str g) w2
     obtain⟨f1,f2⟩:=find_step (s:=s.data.toList) hg
     have hpf:Calls Tryz.prog 158 #[.string s,.string (str g)] w2 fun e w'=>e=.returned (.bool (g.isPrefixOf s.data.toList))∧w'=w2:=hpf
     have hgl:(str g).size=g.length:=rfl
     obtain⟨q,hq⟩:∃ q,g.isPrefixOf s.data.toList=q:=⟨_,rfl⟩
     rw[hq] at hpf f1 f2
     have Hpf:=Lhd hpf
     have Hgl:=Lhd hgl
     cases q with
     | true =>
      have hm:m=some ⟨0,g,0,g.length⟩:=by rw[HF.out,f1 rfl];rfl
      have Hmm:=Lhd hm
      clear hpf f1 f2 hq hg hm hgl
      go_wp2_with (fail)
      refine Hpf.out.mono ?_
      rintro e w' ⟨rfl,rfl⟩
      go_wp2
      refine bodyPost_ret (ret_word3 Tryz.results108 rfl (Hfin.out _ Hb2.out 0 (str g) 0 0).1 rfl rfl rfl) rfl ⟨?_,(Hfin.out _ Hb2.out 0 (str g) 0 0).2⟩
      rw[Hmm.out]
      rfl
     | false =>
      have hm:=HF.out
      rw[f2 rfl] at hm
      have Hmm:=Lhd hm
      clear hpf f1 f2 hq hg hm hgl
      go_wp2_with (fail)
      refine Hpf.out.mono ?_
      rintro e w' ⟨rfl,rfl⟩
      go_wp2
      go_round
      case rel=>exact⟨k+1,by omega,by go_num,Hmm⟩
      case measure=>simp[intOf];omega
    ·have hm:m=none:=by
      rw[HF.out,List.drop_eq_nil_of_le (by simp[signsL];omega)]
      rfl
     have Hmm:=Lhd hm
     clear hm
     go_wp2
     refine bodyPost_ret (ret_word3 Tryz.results108 rfl (Hfin.out _ Hb2.out 0 ⟨#[]⟩ 0 0).1 rfl rfl rfl) rfl ⟨?_,(Hfin.out _ Hb2.out 0 ⟨#[]⟩ 0 0).2⟩
     rw[Hmm.out]
     exact⟨_,_,_,_,rfl⟩
end Go.Proofs.YtgbgiknfejpcoaaGreat
