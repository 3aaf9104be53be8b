/- Parts of this proof, one behind the other: LexF, ParZ5. -/
import Derived.Test.YtgbgiknfejpcoaaGreatPx29
import Derived.Test.YtgbgiknfejpcoaaGreatPx27
set_option maxRecDepth 1000000
set_option maxHeartbeats 40000000
namespace Go.Proofs.YtgbgiknfejpcoaaGreat
open Go.RowKit Go.Afx
theorem tyWd:ElemTy Tryz.prog 142 150 4 40 (.agg #[.int .i64 0,.string ByteArray.empty,.int .i64 0,.int .i64 0]):=⟨Tryz.underlying142,by kernel_rfl,rfl,by decide⟩
theorem wrow_len4 (l:List Wd):∀ r∈l.map wrow,r.length=4:=by
 intro r hr
 obtain⟨x,_,rfl⟩:=List.mem_map.1 hr
 rfl
def SaidL (n base:Nat) (m:Nat ⊕ List Wd) (e:Ending) (w':World):Prop:=match m with
 | .inl at_=>e=.returned (.tuple #[.slice none 0 0,.int .i64 at_,.int .i64 12])
 | .inr ws=>∃ A c,e=.returned (.tuple #[.slice A ws.length c,.int .i64 0,.int .i64 0])∧w'.ownsRow base 150 4 (.slice A ws.length c) ws.length (ws.map wrow).flatten∧(∀ x∈ws,okW x)∧ws.length≤n
def WordsSaid (L:List UInt8) (base:Nat) (e:Ending) (w':World):Prop :=
 if 8000<L.length then e=.returned (.tuple #[.slice none 0 0,.int .i64 0,.int .i64 5])
 else SaidL L.length base (lexL L) e w'
theorem ext_lt (s:ByteArray) (k:Nat) (h:k<s.size):0<(s.extract k s.size).size:=by
 rw[← szl,ext_list,List.length_drop,szl];omega
theorem ext_le (s:ByteArray) (k:Nat):(s.extract k s.size).size≤s.size:=by
 rw[← szl,ext_list,List.length_drop,szl];omega
theorem next_ok {s:List UInt8} {x:Nx} (h:nextX s=some x) (hs:s.length≤1000000):okI x.kind∧okS (str x.text)∧okI x.n:=by
 have htk:∀ (p:UInt8→Bool) (s:List UInt8),(s.takeWhile p).length≤s.length:=fun p s=>(List.takeWhile_prefix p).length_le
 have hstr:∀ t:List UInt8,(str t).size=t.length:=fun t=>rfl
 unfold nextX at h
 split at h
 ·have h2:=htk lexB s
  unfold plainX at h
  split at h
  ·cases hn:parseN (s.takeWhile lexB) with
   | none=>rw[hn] at h;cases h
   | some v =>
    rw[hn] at h
    cases h
    unfold parseN at hn
    split at hn
    ·cases hn
    ·split at hn
     ·cases hn
      exact⟨by unfold okI;simp,by unfold okS;rw[hstr];simp only;omega,by unfold okI;simp only;omega⟩
     ·cases hn
  ·split at h
   ·cases h
    exact⟨by unfold okI;simp,by unfold okS;rw[hstr];simp only;omega,by unfold okI;simp⟩
   ·cases h
 ·split at h
  ·unfold quotedX at h
   split at h
   ·cases h
   ·split at h
    ·cases h
     exact⟨by unfold okI;simp,by unfold okS;rw[hstr];simp only;omega,by unfold okI;simp⟩
    ·cases h
  ·unfold signX at h
   cases hf:signsL.find? (fun g=>g.isPrefixOf s) with
   | none=>rw[hf] at h;cases h
   | some g =>
    rw[hf] at h
    cases h
    have h1:=List.find?_some hf
    have h3:g.length≤s.length:=(List.isPrefixOf_iff_prefix.1 h1).length_le
    exact⟨by unfold okI;simp,by unfold okS;rw[hstr];simp only;omega,by unfold okI;simp⟩
theorem lexH_go (f at_:Nat) (s:List UInt8) (hs:s≠[]):lexH (f+1) at_ s=match nextX s with
  | none=>.inl at_
  | some x=>conX ⟨x.kind,str x.text,x.n,at_⟩ (lexH f (at_+x.len+blk false (s.drop x.len)) ((s.drop x.len).drop (blk false (s.drop x.len)))):=by
 show (if s=[] then _ else _)=_
 rw[if_neg hs]
 cases nextX s<;>rfl
theorem lexWords_any (s:ByteArray) (w:World) :
  Calls Tryz.prog 65 #[.string s] w fun x w'=>WordsSaid s.data.toList w.heap.size x w'∧Below w.heap.size w w':=by
 unfold WordsSaid
 rw[szl]
 rcases Nat.lt_or_ge 8000 s.size with h8|h8
 ·simp only[if_pos h8]
  have h9:(8000:Int)<s.size:=by omega
  clear h8
  go_enter Tryz.func65,Tryz.ntmps65
  go_wp2
  refine bodyPost_ret (v:=.tuple #[.slice none 0 0,.int .i64 0,.int .i64 5]) ?_ rfl ⟨rfl,Below.refl _ _⟩
  simp[results,Tryz.results65,go_sem]
 ·have hs:s.size≤1000000000:=by omega
  simp only[if_neg (show ¬ 8000<s.size by omega)]
  have h9:¬ (8000:Int)<s.size:=by omega
  have hbk:=blank_any s w (by omega)
  obtain⟨m,Hm⟩:∃ m,Hid (m=lexL s.data.toList):=⟨_,rfl⟩
  rw[← Hm.out]
  have hb0:=blk_le s.data.toList false
  rw[szl] at hb0
  have hm0:m=appX [] (lexH (s.size+1) (blk false s.data.toList) (s.data.toList.drop (blk false s.data.toList))):=by rw[Hm.out,appX_nil,lexL,szl]
  generalize blk false s.data.toList=k0 at *
  have Hbk:=Lhd hbk
  have Hm0:=Lhd (And.intro hm0 hb0)
  clear hbk hm0 hb0
  go_enter Tryz.func65,Tryz.ntmps65
  go_wp2_with (fail)
  refine Hbk.out.mono ?_
  rintro e w' ⟨rfl,rfl⟩
  go_wp2
  go_loopw [5,6] (fun l i wr=>∃ (k f:Nat) (ws:List Wd) (A:Option Addr) (c:Nat),k≤s.size∧i=.int .i64 k∧l=.slice A ws.length c∧wr.ownsRow w.heap.size 150 4 (.slice A ws.length c) ws.length (ws.map wrow).flatten∧Hid ((∀ x∈ws,okW x)∧ws.length≤k∧m=appX ws (lexH f k (s.data.toList.drop k))∧s.size-k<f)∧Below w.heap.size w wr) (fun _ i _=>s.size-(intOf i).toNat)
  case atStart=>exact⟨k0,s.size+1,[],none,0,Hm0.out.2,rfl,rfl,World.ownsRow_nil _ _ _ _,Lhd ⟨by simp,by simp,Hm0.out.1,by omega⟩,Below.refl _ _⟩
  case round =>
   obtain⟨k,f,ws,A,c,hk,rfl,rfl,hown,HS,hb⟩:=hrel
   have Hown:=Lhd hown
   have Hb:=Lhd hb
   clear hown hb
   rcases Nat.lt_or_ge k s.size with hlt|hge
   ·have hnx:=next_any (s.extract k s.size) wr (ext_lt s k hlt) (by have:=ext_le s k;omega)
    have hln:=fun x h=>next_len (s:=s.data.toList.drop k) (x:=x) h
    have hok:=fun x h=>next_ok (s:=s.data.toList.drop k) (x:=x) h (by rw[List.length_drop,szl];omega)
    rw[ext_list] at hnx
    obtain⟨f,rfl⟩:∃ f',f=f'+1:=⟨f-1,by have:=HS.out.2.2.2;omega⟩
    have hgo:=HS.out.2.2.1
    rw[lexH_go _ _ _ (by rw[drop_at s k hlt];simp)] at hgo
    rw[List.length_drop,szl] at hln
    generalize nextX (s.data.toList.drop k)=nx at *
    have Hnx:=Lhd hnx
    cases nx with
    | none =>
     have hm:m=.inl k:=hgo
     have Hmm:=Lhd hm
     clear hnx hln hok hgo hm
     go_wp2_with (fail)
     refine Hnx.out.mono ?_
     rintro e w2 ⟨⟨k2,t2,n2,m2,rfl⟩,hb2⟩
     have hal:=Hb.out.trans ((hb2.trans ((Below.refl w2.heap.size w2).alloc (Nat.le_refl _) (.cells #[.int .i64 k2,.string t2,.int .i64 n2,.int .i64 0] 150) |>.mono hb2.size)).mono Hb.out.size)
     have Hal:=Lhd hal
     clear hb2 hal
     go_wp2
     refine bodyPost_ret (v:=.tuple #[.slice none 0 0,.int .i64 k,.int .i64 12]) ?_ rfl ⟨?_,Hal.out⟩
     ·simp[results,Tryz.results65,go_sem]
     ·rw[Hmm.out];rfl
    | some x =>
     obtain⟨hl1,hl2⟩:=hln x rfl
     have hokx:=hok x rfl
     have hgo:m=appX ws (conX ⟨x.kind,str x.text,x.n,k⟩ (lexH f (k+x.len+blk false ((s.data.toList.drop k).drop x.len)) (((s.data.toList.drop k).drop x.len).drop (blk false ((s.data.toList.drop k).drop x.len))))):=hgo
     rw[List.drop_drop,appX_con,List.drop_drop] at hgo
     have hbk:=fun wr=>blank_any (s.extract (k+x.len) s.size) wr (by have:=ext_le s (k+x.len);omega)
     rw[ext_list] at hbk
     have hbl:=blk_le (s.data.toList.drop (k+x.len)) false
     rw[List.length_drop,szl] at hbl
     generalize blk false (s.data.toList.drop (k+x.len))=b at *
     have hokw:∀ y∈ws++[⟨x.kind,str x.text,x.n,k⟩],okW y:=by
      intro y hy
      rcases List.mem_append.1 hy with hy|hy
      ·exact HS.out.1 y hy
      ·simp only[List.mem_singleton] at hy
       subst hy
       exact⟨hokx.1,hokx.2.1,hokx.2.2,by unfold okI;simp only;omega⟩
     have hnext:(∀ y∈ws++[⟨x.kind,str x.text,x.n,k⟩],okW y)∧(ws++[(⟨x.kind,str x.text,x.n,k⟩:Wd)]).length≤k+x.len+b∧m=appX (ws++[⟨x.kind,str x.text,x.n,k⟩]) (lexH f (k+x.len+b) (s.data.toList.drop (k+x.len+b)))∧s.size-(k+x.len+b)<f:=⟨hokw,by have:=HS.out.2.1;simp;omega,hgo,by have:=HS.out.2.2.2;omega⟩
     obtain⟨xk,xt,xn,xl⟩:=x
     simp only at hl1 hl2 hbl hbk hnext
     have Hnext:=Lhd hnext
     have Hbk:=Lhd hbk
     have Hl:=Lhd (And.intro hl1 (And.intro hl2 hbl))
     have Hll:=Lhd HS.out.2.1
     have Hnx:Hid (Calls Tryz.prog 108 #[.string (s.extract k s.size)] wr fun e w'=>e=.returned (.tuple #[.agg #[.int .i64 xk,.string (str xt),.int .i64 xn,.int .i64 0],.int .i64 xl,.bool true])∧Below wr.heap.size wr w'):=Lhd Hnx.out
     clear hnx hln hok hgo hokx hokw hnext hbk hbl hl1 hl2
     go_wp2_with (fail)
     refine Hnx.out.mono ?_
     rintro e w2 ⟨rfl,hb2⟩
     have hz2:=hb2.size
     have hk4:IsBlk (w2.alloc (.cells #[.int .i64 xk,.string (str xt),.int .i64 xn,.int .i64 k] 150)) w2.heap.size 150 #[.int .i64 xk,.string (str xt),.int .i64 xn,.int .i64 k]:=IsBlk.laid _ _ _
     have hb4:=hb2.trans (((Below.refl w2.heap.size w2).alloc (Nat.le_refl _) (.cells #[.int .i64 xk,.string (str xt),.int .i64 xn,.int .i64 k] 150)).mono hz2)
     have hown4:=own_below Hown.out hb4
     obtain⟨w4,Hw4⟩:∃ w4,Hid (w4=w2.alloc (.cells #[.int .i64 xk,.string (str xt),.int .i64 xn,.int .i64 k] 150)):=⟨_,rfl⟩
     rw[← Hw4.out] at hk4 hb4 hown4
     have hal5:=(Below.refl w4.heap.size w4).alloc (Nat.le_refl _) (.cells #[.int .i64 xk,.string (str xt),.int .i64 xn,.int .i64 k] 150)
     have hown5:=own_below hown4 hal5
     have hnew:RowsAt (w4.alloc (.cells #[.int .i64 xk,.string (str xt),.int .i64 xn,.int .i64 k] 150)) 4 (some ⟨w4.heap.size,0,none⟩) 1 1 [wrow ⟨xk,str xt,xn,k⟩]:=RowsAt.lit' _ _ 1 rfl rfl (by simp[wrow]) rfl (by unfold maxLen;omega)
     have hmx:ws.length+1≤maxLen:=by have:=Hll.out;unfold maxLen;omega
     have hby:(ws.length+1)*40≤140737488355328:=by have:=Hll.out;omega
     have hba:w.heap.size≤(w4.alloc (.cells #[.int .i64 xk,.string (str xt),.int .i64 xn,.int .i64 k] 150)).heap.size:=by have h1:=Hb.out.size;have h2:=hb4.size;have h3:=hal5.size;omega
     have H4:=Lhd (And.intro hk4 (And.intro hb4 (And.intro hown5 (And.intro hnew (And.intro hmx (And.intro hby (And.intro hba hal5)))))))
     clear hb2 hz2 hk4 hb4 hown4 hown5 hnew hmx hby hba hal5
     go_upto_region 11 with (fail)
     rw[← Hw4.out]
     obtain⟨k0',k1',k2',k3',klt⟩:=cells4 H4.out.1
     obtain⟨s1,s2,s3⟩:=Hl.out
     have s4:k+xl≤s.size:=by omega
     have s5:k+xl+b≤s.size:=by omega
     have s6:((k:Int)+(xl:Int)).toNat=k+xl:=by omega
     go_wp2_with (at_builtin;refine wpList_app (base:=w.heap.size) (xs:=ws.map wrow) (news:=[wrow ⟨xk,str xt,xn,k⟩]) rfl rfl tyWd rfl H4.out.2.2.1 rfl H4.out.2.2.2.1 (by simp[wrow]) (by simp[wrow,Value.oneCell']) H4.out.2.2.2.2.1 H4.out.2.2.2.2.2.1 H4.out.2.2.2.2.2.2.1 ?_;intro A6 c6 w6 hown6 hbut6 hf6)
     have hb6:=Hb.out.trans ((H4.out.2.1.trans (H4.out.2.2.2.2.2.2.2.mono H4.out.2.1.size)).mono Hb.out.size)
     have hb7:=hb6.trans (own_turned H4.out.2.2.1 hbut6 H4.out.2.2.2.2.2.2.1)
     have H7:=Lhd (And.intro hb7 hown6)
     clear hb6 hb7 hown6 hbut6 hf6
     go_wp2_with (fail)
     with_reducible refine(Hbk.out _).mono ?_
     rintro e w' ⟨rfl,rfl⟩
     go_wp2
     go_roundw
     case rel=>exact⟨k+xl+b,f,ws++[⟨xk,str xt,xn,k⟩],A6,c6,s5,by go_num,by simp,by simpa using H7.out.2,Hnext,H7.out.1⟩
     case measure=>simp[intOf];omega
   ·have hm:m=.inr ws:=by
     have h1:=HS.out.2.2.1
     obtain⟨f,rfl⟩:∃ f',f=f'+1:=⟨f-1,by have:=HS.out.2.2.2;omega⟩
     rw[List.drop_eq_nil_of_le (by rw[szl];omega)] at h1
     rw[h1]
     show Sum.inr (ws++[])=_
     rw[List.append_nil]
    have Hmm:=Lhd hm
    clear hm
    go_wp2
    refine bodyPost_ret (v:=.tuple #[.slice A ws.length c,.int .i64 0,.int .i64 0]) ?_ rfl ⟨?_,Hb.out⟩
    ·simp[results,Tryz.results65,go_sem]
    ·rw[Hmm.out]
     exact⟨A,c,rfl,Hown.out,HS.out.1,by have:=HS.out.2.1;omega⟩
theorem words_ls {F:Nat→Prop} {base:Nat} {w:World} {A:Option Addr} {c:Nat} {ws:List Wd} (h:w.ownsRow base 150 4 (.slice A ws.length c) ws.length (ws.map wrow).flatten) (hok:∀ x∈ws,okW x) (hF:∀ a,A=some a→0<ws.length→F a.block):LsAt F w 4 WRow A ws.length c ws :=
 ⟨ws.map wrow,RowsAt.of_own h (wrow_len4 ws) (by simp),hF,by simp,fun k r x hr hx=>by
  rw[List.getElem?_map,hx] at hr
  simp only[Option.map_some,Option.some.injEq] at hr
  subst hr
  exact⟨rfl,rfl,hok x (List.mem_of_getElem? hx)⟩⟩
theorem cloneW_any (base:Nat) (A:Option Addr) (c:Nat) (ws:List Wd) (hn:ws.length≤1000000) (w:World) (hW:w.ownsRow base 150 4 (.slice A ws.length c) ws.length (ws.map wrow).flatten) :
  Calls Tryz.prog 109 #[.slice A ws.length c] w fun e w'=>∃ A2 c2,e=.returned (.slice A2 ws.length c2)∧w'.ownsRow w.heap.size 150 4 (.slice A2 ws.length c2) ws.length (ws.map wrow).flatten∧Below w.heap.size w w':=by
 have hR:=RowsAt.of_own hW (wrow_len4 ws) (by simp)
 have q22:∀ (w:World) (a:Option Addr) (n c n' c':Nat),(binOp .eql 142 (.slice a n c) (.slice none n' c')).run Tryz.prog w=.ok (.bool a.isNone) w:=fun w a n c n' c'=>Lib.run_eql_slice_nil w _ _ a n c n' c' Tryz.underlying142
 have h1:∀ r∈ws.map wrow,∀ u∈r,u.oneCell'=true:=by
  intro r hr u hu
  obtain⟨x,_,rfl⟩:=List.mem_map.1 hr
  simp only[wrow,List.mem_cons,List.not_mem_nil,or_false] at hu
  rcases hu with rfl|rfl|rfl|rfl<;>rfl
 have h4:=wrow_len4 ws
 have hl:(ws.map wrow).length=ws.length:=by simp
 generalize ws.map wrow=rows at *
 generalize ws.length=n at *
 clear hW
 cases A with
 | none =>
  have h0:rows=[]:=by
   cases rows with
   | nil=>rfl
   | cons a r =>
    obtain⟨b,o,e,_⟩:=hR.at_ 0 a rfl
    cases e
  subst h0
  obtain rfl:n=0:=by simpa using hl.symm
  go_enter Tryz.func109,Tryz.ntmps109
  go_wp2
  go_ret
  exact⟨none,0,rfl,World.ownsRow_nil _ _ _ _,Below.refl _ _⟩
 | some a =>
  have hW2:RowsAt (w.alloc (.cells #[] 150)) 4 (some a) n c rows:=hR.below ((Below.refl _ _).alloc (Nat.le_refl _) _)
  have hown:(w.alloc (.cells #[] 150)).ownsRow w.heap.size 150 4 (.slice (some ⟨w.heap.size,0,none⟩) 0 0) 0 ([]:List (List Value)).flatten:=World.ownsRow_made w #[] 0 (Nat.le_refl _) (Nat.zero_le _) (by simp)
  go_enter Tryz.func109,Tryz.ntmps109
  go_wp2_with (at_builtin;refine wpList_app rfl rfl tyWd rfl hown rfl hW2 h4 h1 ?_ ?_ ?_ ?_;(unfold maxLen;omega);omega;(simp);intro A3 c3 w3 hown3 hbut3 hf3)
  go_ret
  refine⟨A3,c3,by simp,?_,?_⟩
  ·simpa using hown3
  ·refine((Below.refl _ _).alloc (Nat.le_refl _) _).trans (hbut3.below' (by simp) (fun i hi=>?_))
   simp at hi;omega
def OnSaid (g0:Nat) (W:Wds) (w:World) (e:Ending) (w':World):Prop:=∃ gc gw,e=.returned (.pointer (some ⟨gc,0,none⟩))∧CuAt (fun b=>b=gw) gc W 0 w'∧gw<w'.heap.size∧(gw=g0∨w.heap.size≤gw)∧w.heap.size≤gc∧Below w.heap.size w w'
theorem on_any (base g0:Nat) (A:Option Addr) (c:Nat) (W:Wds) (w:World) (hn:W.l.length≤1000000) (hW:w.ownsRow base 150 4 (.slice A W.l.length c) W.l.length (W.l.map wrow).flatten) (hok:∀ x∈W.l,okW x) (he:okI W.end_) (h0:g0<w.heap.size) :
  Calls Tryz.prog 66 #[.slice A W.l.length c,.int .i64 W.end_] w (OnSaid g0 W w):=by
 have hc:=cloneW_any base A c W.l hn w hW
 have Hc:=Lhd hc
 obtain⟨n,Hn⟩:∃ n,Hid (n=W.l.length):=⟨_,rfl⟩
 have hc:Calls Tryz.prog 109 #[.slice A n c] w fun e w'=>∃ A2 c2,e=.returned (.slice A2 n c2)∧w'.ownsRow w.heap.size 150 4 (.slice A2 n c2) n (W.l.map wrow).flatten∧Below w.heap.size w w':=by rw[Hn.out];exact Hc.out
 rw[← Hn.out]
 have Hc:=Lhd hc
 clear hc hW
 go_enter Tryz.func66,Tryz.ntmps66
 go_wp2_with (fail)
 refine Hc.out.mono ?_
 rintro e w2 ⟨A2,c2,rfl,hown,hb⟩
 have H2:=Lhd (And.intro hown hb)
 clear hown hb
 go_wp2
 go_ret
 have hen:=Hn.out
 subst hen
 have hown:=H2.out.1
 have hb:=H2.out.2
 have hal:=(Below.refl w2.heap.size w2).alloc (Nat.le_refl _) (.cells #[.int .i64 0,.int .i64 W.end_,.slice A2 W.l.length c2] 200)
 have hk:IsBlk (w2.alloc (.cells #[.int .i64 0,.int .i64 W.end_,.slice A2 W.l.length c2] 200)) w2.heap.size 200 #[.int .i64 0,.int .i64 W.end_,.slice A2 W.l.length c2]:=IsBlk.laid _ _ _
 have hsz:=hb.size
 have hmax:W.l.length≤1000000000000:=by omega
 rcases Nat.eq_zero_or_pos W.l.length with h9|h9
 ·refine⟨w2.heap.size,g0,rfl,⟨⟨A2,_,c2,hk,?_⟩,Nat.zero_le _,hmax,he,by omega⟩,by simp;omega,.inl rfl,hsz,hb.trans (hal.mono hsz)⟩
  exact words_ls (own_below hown hal) hok (fun _ _ h=>by omega)
 ·obtain⟨g,cap,hv,hgb,hg⟩:=hown.form h9
  simp only[Value.slice.injEq] at hv
  obtain⟨rfl,_,_⟩:=hv
  refine⟨w2.heap.size,g,rfl,⟨⟨_,_,c2,hk,?_⟩,Nat.zero_le _,hmax,he,by omega⟩,by simp;omega,.inr hgb,hsz,hb.trans (hal.mono hsz)⟩
  exact words_ls (own_below hown hal) hok (fun a ha _=>by cases ha;rfl)
theorem PAt.aside {gp gc gw g:Nat} {W:Wds} {s:PSt} {w w':World} (h:PAt gp gc gw W s w) (hb:But (fun k=>k=g) w w') (hg:gp≠g∧gc≠g∧gw≠g):PAt gp gc gw W s w':=h.off hb (fun k hk=>by subst hk;exact hg)
theorem procClo_any (gp gc gw gx:Nat) (W:Wds) (hW:W.l.length≤1000000) (s:PSt) (w:World) (cs:Array Value) (h:PAt gp gc gw W s w) (hx:IsBlk w gx 36 cs) (hcs:cs.size=6) (hg:gp≠gx∧gc≠gx∧gw≠gx) :
  Calls Tryz.prog 74 #[.pointer (some ⟨gp,0,none⟩),.pointer (some ⟨gx,0,none⟩)] w fun e w'=>e=.returned (.tuple #[])∧(∃ row D,IsBlk w' gx 36 row.toArray∧PrAt (Fr w) D w' row (procP W s).1)∧PAt gp gc gw W (procP W s).2 w'∧But (fun k=>k=gp∨k=gc∨k=gx) w w':=by
 have hp:=pProc_any gp gc gw W hW s w h
 generalize procP W s=fin at *
 obtain⟨v0,v1,v2,v3,v4,v5,rfl⟩:∃ v0 v1 v2 v3 v4 v5,cs=#[v0,v1,v2,v3,v4,v5]:=by
  obtain⟨l⟩:=cs
  match l,hcs with
  | [a,b,c,d,e,f],_=>exact⟨a,b,c,d,e,f,rfl⟩
 have Hp:=Lhd hp
 have Hx:=Lhd hx
 have hlt:=hx.lt
 clear hp hx h
 go_enter Tryz.func74,Tryz.ntmps74
 go_wp2_with (fail)
 refine Hp.out.mono ?_
 rintro e w2 ⟨row,D,rfl,hpr,hP,hB⟩
 have hk2:=Hx.out.as_was (hB.block _ Hx.out.lt (by rintro(e|e)<;>omega))
 obtain⟨x0,x1,x2,x3,x4,x5,xl⟩:=cells6 hk2
 have fx:=hk2.frozen
 have hpr2:=hpr
 obtain⟨_,_,_,_,Ap,np,cp,Ab,nb,cb,rfl,_⟩:=hpr2
 have H2:=Lhd (And.intro hpr (And.intro hP (And.intro hB hk2)))
 clear hpr hP hB hk2
 go_wp2
 rw[lay6_eq]
 refine bodyPost_end (results_none rfl _ _ _) rfl ?_
 have hb7:=lay6_but w2 gx (.string fin.1.name) (.string fin.1.src) (.string fin.1.part) (.int .i64 fin.1.fuel) (.slice Ap np cp) (.slice Ab nb cb)
 refine⟨rfl,⟨_,D,lay6_blk _ _ _ _ _ _ H2.out.2.2.2,?_⟩,H2.out.2.1.aside hb7 hg,((H2.out.2.2.1.mono (fun i hi=>.inl (by rcases hi with e|e;exact .inl e;exact .inr (.inl e)))).trans hb7 (fun i hi=>.inl (.inr (.inr hi))))⟩
 exact PrAt.conv (fun _ h=>h) (Kept.of_but hb7 fun k (hk:w.heap.size≤k) e=>by omega) (Nat.le_refl D) H2.out.1
end Go.Proofs.YtgbgiknfejpcoaaGreat
