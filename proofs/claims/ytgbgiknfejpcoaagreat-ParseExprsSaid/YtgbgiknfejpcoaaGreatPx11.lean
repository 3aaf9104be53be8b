/- Parts of this proof, one behind the other: PrtW, PrsP. -/
import Derived.Test.YtgbgiknfejpcoaaGreatPx10
import Derived.Deep.AppendSrc
set_option maxRecDepth 1000000
set_option maxHeartbeats 40000000
namespace Go.Proofs.YtgbgiknfejpcoaaGreat
open Go.RowKit Go.Afx
theorem tyIntW:ElemTy Tryz.prog 31 3 1 8 (.int .i64 0):=⟨Tryz.underlying31,by kernel_rfl,rfl,by decide⟩
def digC (l:List Nat):List (List Value):=l.map fun (x:Nat)=>[Value.int .i64 (x:Int)]
theorem digC_len {l:List Nat}:∀ r∈digC l,r.length=1:=by
 intro r hr
 obtain⟨x,_,rfl⟩:=List.mem_map.1 hr
 rfl
theorem digC_flat (l:List Nat):(digC l).flatten=l.map fun (x:Nat)=>Value.int .i64 (x:Int):=by
 unfold digC
 induction l with
 | nil=>rfl
 | cons a r ih=>rw[List.map_cons,List.flatten_cons,ih];rfl
theorem digC_app (l:List Nat) (m:Nat):digC (l++[m % 10])=digC l++[[.int .i64 ((m:Int) % 10)]]:=by
 unfold digC
 rw[List.map_append]
 rfl
theorem numOf_any (N:Nat) (hN:N<10 ^ 19) (w:World):Calls Tryz.prog 153 #[.int .i64 N] w fun e w'=>∃ A c,e=.returned (.agg #[.bool false,.slice A (lowD N).length c])∧w'.ownsRow (w.heap.size+1) 3 1 (.slice A (lowD N).length c) (lowD N).length (digC (lowD N)).flatten∧Below w.heap.size w w':=by
 have hN2:N<10000000000000000000:=hN
 have Hlen:=Lhd (lowD_len 19 N hN)
 have hd0:decide ((N:Int)<0)=false:=by simp
 go_enter Tryz.func153,Tryz.ntmps153
 go_wp2
 go_loopw [3,4] (fun u v wr=>∃ (m:Nat) (done:List Nat) (A:Option Addr) (c:Nat),m≤N∧u=.int .u64 m∧Hid (lowD N=done++lowD m)∧v=.slice A done.length c∧Hid (wr.ownsRow (w.heap.size+1) 3 1 (.slice A done.length c) done.length (digC done).flatten)∧Hid (Below (w.heap.size+1) (w.alloc (.cells #[.bool false,.slice none 0 0] 186)) wr)) (fun u _ _=>(intOf u).toNat)
 case atStart=>exact⟨N,[],none,0,Nat.le_refl _,by first|rfl|go_num,Lhd rfl,rfl,Lhd (World.ownsRow_nil _ _ _ _),Lhd (Below.refl _ _)⟩
 case round =>
  obtain⟨m,done,A,c,hm,rfl,HL,rfl,HO,HB⟩:=hrel
  have hsz:=HB.out.size
  simp at hsz
  have hdl:done.length≤19:=by have:=Hlen.out;rw[HL.out,List.length_append] at this;omega
  rcases Nat.eq_zero_or_pos m with rfl|hp
  ·have hdn:done=lowD N:=by rw[HL.out,lowD_zero,List.append_nil]
   have hs:done.length=0∨∃ b x,A=some ⟨b,0,none⟩∧0<done.length∧wr.cell? ⟨b,done.length-1,none⟩=some (.int .i64 x)∧x≠0∧b<wr.heap.size:=by
    rcases Nat.eq_zero_or_pos done.length with hz|hz
    ·exact .inl hz
    ·rcases HO.out.2 with ⟨_,h⟩|⟨g,cap,cur,hv,_⟩
     ·exact .inl h
     ·injection hv with e1 e2 e3
      subst e1 e3
      have hN0:0<N:=by
       rcases Nat.eq_zero_or_pos N with h|h
       ·rw[hdn,h,lowD_zero] at hz;simp at hz
       ·exact h
      obtain⟨x,hx,hx0⟩:=lowD_last 19 N hN hN0
      refine .inr ⟨g,(x:Int),rfl,hz,?_,by omega,(HO.out.lt g rfl).2⟩
      rw[World.ownsRow.cellAt HO.out (done.length-1) (by omega),digC_flat,List.getElem?_map]
      rw[← hdn,List.getLast?_eq_getElem?] at hx
      rw[hx]
      rfl
   have Hsg:=Lhd (refSign_any A done.length c wr (by omega) hs)
   have hk:IsBlk wr w.heap.size 186 #[.bool false,.slice none 0 0]:=(IsBlk.laid w _ _).as_was (HB.out.block w.heap.size (by omega))
   have Hk:=Lhd hk
   have HN:=Lhd hN
   have Hdn:=Lhd hdn
   clear hs hsz hk hN hN2 hdn
   go_wp2_with (go_at_call 103;refine Hsg.out.mono ?_)
   rintro e w2 ⟨rfl,hb2⟩
   have hk2:=Hk.out.as_was (hb2.block _ Hk.out.lt)
   have z0:=hk2.cell 0
   have z1:=hk2.cell 1
   have f0:=hk2.frozen 0
   have f1:=hk2.frozen 1
   have zl:=hk2.lt
   simp at z0 z1
   have Hb2:=Lhd hb2
   have Hk2:=Lhd hk2
   clear hb2 hk2
   go_wp2
   refine bodyPost_ret (v:=.agg #[.bool false,.slice A done.length c]) (by simp[results,Tryz.results153,go_sem,z0,z1]) rfl ⟨A,c,by rw[← Hdn.out],?_,?_⟩
   ·rw[← Hdn.out]
    refine own_but (own_below HO.out Hb2.out) (((But.refl (fun i=>i=w.heap.size) w2).setCell (p:=⟨w.heap.size,0,none⟩) (.inl rfl) _).setCell (p:=⟨w.heap.size,1,none⟩) (.inl rfl) _) (fun i hi e=>?_)
    subst e
    have:=(HO.out.lt _ hi).1
    omega
   ·have h1:Below w.heap.size w wr:=((Below.refl _ _).alloc (Nat.le_refl _) _).trans (HB.out.mono (by simp))
    exact((h1.trans (Hb2.out.mono h1.size)).setCell (p:=⟨w.heap.size,0,none⟩) (Nat.le_refl _) _).setCell (p:=⟨w.heap.size,1,none⟩) (Nat.le_refl _) _
  ·have hnew:RowsAt (wr.alloc (.cells #[.int .i64 ((m:Int) % 10)] 3)) 1 (some ⟨wr.heap.size,0,none⟩) 1 1 [[.int .i64 ((m:Int) % 10)]]:=RowsAt.lit' _ _ 1 (by rfl) rfl (by simp) rfl (by unfold maxLen;omega)
   have hown:=own_below HO.out ((Below.refl wr.heap.size wr).alloc (Nat.le_refl _) (.cells #[.int .i64 ((m:Int) % 10)] 3))
   have e0:decide ((0:Int)<(m:Int))=true:=by simp;omega
   go_wp2_with (at_builtin;refine wpList_app (s:=.tmp 13) (x:=.tmp 17) (xs:=digC done) rfl rfl tyIntW rfl hown rfl hnew (by intro r hr;simp at hr;subst hr;rfl) (by intro r hr u hu;simp at hr;subst hr;simp at hu;subst hu;rfl) ?_ ?_ ?_ ?_;(unfold maxLen;omega);omega;(simp;omega);intro A3 c3 w3 hown3 hbut3 hf3)
   go_roundw
   case rel =>
    refine⟨m / 10,done++[m % 10],A3,c3,by omega,by go_num,Lhd (by rw[HL.out,lowD_pos hp];simp),by simp,Lhd ?_,Lhd ?_⟩
    ·rw[digC_app,List.length_append]
     exact hown3
    ·refine HB.out.trans (((Below.refl _ _).alloc hsz _).trans (hbut3.below' (by simp;omega) fun i hi=>?_))
     cases A with
     | none=>cases hi
     | some a=>exact(HO.out.lt i hi).1
   case measure=>simp[intOf];omega
end Go.Proofs.YtgbgiknfejpcoaaGreat
namespace Go.Afx
open Go.RowKit
def sepsT (l:List (List UInt8)):List UInt8:=l.flatMap fun x=>[44,32]++x
def joinT:List (List UInt8)→List UInt8
 | []=>[]
 | a::r=>a++sepsT r
def indT (k:Nat):List UInt8:=List.replicate (2*k) 32
def blockT (f:Nat→St→List UInt8) (k:Nat) (l:List St):List UInt8 :=
 if l=[] then [123,125] else [123,10]++(l.flatMap fun x=>indT (k+1)++f (k+1) x++[10])++indT k++[125]
def rowsX (d:Nat) (name src:ByteArray):List Ex→List UInt8
 | []=>[]
 | a::_=>rowsT name src a.op a.n (txtE d a)
def setsT (d:Nat):List ByteArray→List Ex→List (List UInt8)
 | c::cs,e::es=>(c.data.toList++[32,61,32]++txtE d e)::setsT d cs es
 | _,_=>[]
def plainT (d:Nat) (op:Int) (name src:ByteArray) (cols:List ByteArray) (exprs:List Ex):List UInt8 :=
 if op=1 then [108,101,116,32]++name.data.toList++[32,61,32]++joinT (exprs.map (txtE d))
 else if op=2 then [115,101,116,32]++name.data.toList++[32,61,32]++joinT (exprs.map (txtE d))
 else if op=3 then [105,110,115,101,114,116,32]++src.data.toList++[40]++joinT (exprs.map (txtE d))++[41]
 else if op=8 then [101,109,105,116,32]++src.data.toList++[40]++joinT (exprs.map (txtE d))++[41]
 else if op=4 then [117,112,100,97,116,101,32]++rowsX d name src exprs++[32,115,101,116,32]++joinT (setsT d cols exprs.tail)
 else if op=5 then [100,101,108,101,116,101,32]++rowsX d name src exprs
 else if op=9 then [97,98,111,114,116,32]++joinT (exprs.map (txtE d))
 else [114,101,112,108,121,32]++joinT (exprs.map (txtE d))
def firstT (d:Nat):List Ex→List UInt8
 | []=>[]
 | a::_=>txtE d a
def txtS:Nat→Nat→St→List UInt8
 | 0,_,_=>[]
 | d+1,k,x =>
  if x.op=6 then [102,111,114,32]++rowsX d x.name x.src x.exprs++(if 0<x.n then [32,108,105,109,105,116,32]++decS x.n else [])++[32]++blockT (txtS d) k x.body
  else if x.op=7 then [105,102,32]++firstT d x.exprs++[32]++blockT (txtS d) k x.body++(if x.els=[] then [] else [32,101,108,115,101,32]++blockT (txtS d) k x.els)
  else plainT d x.op x.name x.src x.cols x.exprs++[59]
def nlS:Nat→St→Bool
 | 0,_=>false
 | d+1,x=>x.exprs.any (nlE d)||x.body.any (nlS d)||x.els.any (nlS d)
def kindT (k:Int):List UInt8:=if k=1 then [105,110,116] else if k=2 then [116,101,120,116] else [98,111,111,108]
def paramT (c:Co):List UInt8:=c.name.data.toList++[32]++kindT c.kind
def txtP (d:Nat) (p:Pr):List UInt8 :=
 [112,114,111,99,32]++p.name.data.toList++[40]++joinT (p.params.map paramT)++[41]++(if noS p.part then [] else [32,111,110,32]++p.part.data.toList) ++
 (if noS p.src then [] else [32,102,114,111,109,32]++p.src.data.toList)++(if p.fuel=100 then [] else [32,102,117,101,108,32]++decS p.fuel)++[32]++blockT (txtS d) 0 p.body
def nlP (d:Nat) (p:Pr):Bool:=p.body.any (nlS d)
end Go.Afx
