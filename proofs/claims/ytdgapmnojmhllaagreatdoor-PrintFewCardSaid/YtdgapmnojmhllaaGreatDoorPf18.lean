/- Parts of this proof, one behind the other: PrtA1, PrsP. -/
import Derived.Test.YtdgapmnojmhllaaGreatDoorPf17
import Derived.Test.YtdgapmnojmhllaaGreatDoorPf13
set_option maxRecDepth 1000000
set_option maxHeartbeats 40000000
namespace Go.Proofs.YtdgapmnojmhllaaGreatDoor
open Go.RowKit Go.Afx
abbrev sNil:ByteArray:=⟨#[]⟩
abbrev vars (nm:ByteArray):Ex:=.mk 4 0 sNil nm sNil []
abbrev opx (op:Int) (l:List Ex):Ex:=.mk op 0 sNil sNil sNil l
abbrev varRow (nm:ByteArray):List Value:=[.int .i64 4,.int .i64 0,.string sNil,.string nm,.string sNil,.slice none 0 0]
abbrev opRow (op:Int) (A:Option Addr) (n:Nat):List Value:=[.int .i64 op,.int .i64 0,.string sNil,.string sNil,.string sNil,.slice A n n]
abbrev ex1:Ex:=opx 19 [opx 11 [vars ⟨#[120]⟩,vars ⟨#[121]⟩]]
abbrev ex2:Ex:=opx 11 [opx 19 [vars ⟨#[120]⟩],vars ⟨#[121]⟩]
theorem ex1_said:exprS 3 ex1=([110,111,116,32,120,32,61,32,121],0):=by decide +kernel
theorem ex2_said:exprS 3 ex2=([40,110,111,116,32,120,41,32,61,32,121],0):=by decide +kernel
theorem ex1_len:(txtE 3 ex1).length≤1000000000:=by decide +kernel
theorem ex2_len:(txtE 3 ex2).length≤1000000000:=by decide +kernel
theorem exs_of {F:Nat→Prop} {d n c:Nat} {W:World} {A:Option Addr} {rows:List (List Value)} {es:List Ex} (hr:RowsAt W 6 A n c rows) (hF:∀ a,A=some a→0<n→F a.block) (hl:rows.length=es.length) (h:∀ (k:Nat) (r:List Value) (x:Ex),rows[k]?=some r→es[k]?=some x→ExAt F d W r x):ExsAt F d W A n c es :=
 ⟨rows,hr,hF,hl,fun k r x h1 h2=>⟨(h k r x h1 h2).len,h k r x h1 h2⟩⟩
theorem okS_nil:okS sNil:=by unfold okS;decide +kernel
theorem ex_var {F:Nat→Prop} {d:Nat} {W:World} {nm:ByteArray} (h:okS nm):ExAt F (d+1) W (varRow nm) (vars nm) :=
 ⟨(by unfold okI;decide:okI 4),(by unfold okI;decide:okI 0),okS_nil,h,okS_nil,none,0,0,rfl,LsAt.nil_ _ _ _ _⟩
theorem ex_opx {F:Nat→Prop} {d:Nat} {W:World} {op:Int} {A:Option Addr} {n:Nat} {es:List Ex} (h0:0≤op) (h1:op≤100) (h:ExsAt F d W A n n es):ExAt F (d+1) W (opRow op A n) (opx op es) :=
  ⟨by unfold okI;have:(opx op es).op=op:=rfl
      omega,(by unfold okI;decide:okI 0),okS_nil,okS_nil,okS_nil,A,n,n,rfl,h⟩
theorem exs_one {F:Nat→Prop} {d:Nat} {w:World} {g:Nat} (T:TypeId) {r:List Value} {e:Ex} (hg:g=w.heap.size) (hF:F g) (h:ExAt F d (w.alloc (.cells r.toArray T)) r e):ExsAt F d (w.alloc (.cells r.toArray T)) (some ⟨g,0,none⟩) 1 1 [e]:=by
 have h6:=h.len
 refine exs_of (rows:=[r]) (RowsAt.lit' _ _ 1 hg (by simp) (by simpa using h6) (by simp) (by unfold maxLen;omega)) (fun a ha _=>by cases ha;exact hF) rfl (fun k r x h1 h2=>?_)
 cases k with
 | zero=>simp at h1 h2;subst h1 h2;exact h
 | succ k=>simp at h1
theorem exs_two {F:Nat→Prop} {d:Nat} {w:World} {g:Nat} (T:TypeId) {r r2:List Value} {e e2:Ex} (hg:g=w.heap.size) (hF:F g) (h:ExAt F d (w.alloc (.cells (r++r2).toArray T)) r e) (h2:ExAt F d (w.alloc (.cells (r++r2).toArray T)) r2 e2):ExsAt F d (w.alloc (.cells (r++r2).toArray T)) (some ⟨g,0,none⟩) 2 2 [e,e2]:=by
 have h6:=h.len
 have h62:=h2.len
 refine exs_of (rows:=[r,r2]) (RowsAt.lit' _ _ 2 hg (by simp) (by simp[h6,h62]) (by simp) (by unfold maxLen;omega)) (fun a ha _=>by cases ha;exact hF) rfl (fun k q x q1 q2=>?_)
 rcases k with _|_|k
 ·simp at q1 q2;subst q1 q2;exact h
 ·simp at q1 q2;subst q1 q2;exact h2
 ·simp at q1
theorem laid_lt (w:World) (o:Obj):Below w.heap.size w (w.alloc o):=(Below.refl _ _).alloc (Nat.le_refl _) _
theorem say1 (w:World) (hm:HasMax w) (hg:0<w.heap.size) (g1 g2:Nat) (h1:g1=w.heap.size) (h2:g2=w.heap.size+1):Calls Tryz.prog 8 #[.agg #[.int .i64 19,.int .i64 0,.string ⟨#[]⟩,.string ⟨#[]⟩,.string ⟨#[]⟩,.slice (some ⟨g2,0,none⟩) 1 1]] ((w.alloc (.cells #[.int .i64 4,.int .i64 0,.string ⟨#[]⟩,.string ⟨#[120]⟩,.string ⟨#[]⟩,.slice none 0 0,.int .i64 4,.int .i64 0,.string ⟨#[]⟩,.string ⟨#[121]⟩,.string ⟨#[]⟩,.slice none 0 0] 32)).alloc (.cells #[.int .i64 11,.int .i64 0,.string ⟨#[]⟩,.string ⟨#[]⟩,.string ⟨#[]⟩,.slice (some ⟨g1,0,none⟩) 2 2] 32)) fun x w'=>x=.returned (.tuple #[.string ⟨#[110,111,116,32,120,32,61,32,121]⟩,.int .i64 0])∧Below w.heap.size w w':=by
 have ha:ExsAt (fun k=>k<w.heap.size+2) 1 (w.alloc (.cells (varRow ⟨#[120]⟩++varRow ⟨#[121]⟩).toArray 32)) (some ⟨g1,0,none⟩) 2 2 [vars ⟨#[120]⟩,vars ⟨#[121]⟩]:=exs_two _ h1 (by omega) (ex_var (by unfold okS;decide +kernel)) (ex_var (by unfold okS;decide +kernel))
 have hb:=exs_one (F:=fun k=>k<w.heap.size+2) (d:=2) (w:=w.alloc (.cells (varRow ⟨#[120]⟩++varRow ⟨#[121]⟩).toArray 32)) (g:=g2) 32 (r:=opRow 11 (some ⟨g1,0,none⟩) 2) (e:=opx 11 [vars ⟨#[120]⟩,vars ⟨#[121]⟩]) (by simp[h2]) (by omega) (ex_opx (by decide) (by decide) (ha.below (laid_lt _ _)))
 have hx:=ex_opx (op:=19) (by decide) (by decide) hb
 have hlow:=(laid_lt w (.cells (varRow ⟨#[120]⟩++varRow ⟨#[121]⟩).toArray 32)).alloc (by simp) (.cells (opRow 11 (some ⟨g1,0,none⟩) 2).toArray 32)
 have h:=printExpr_any (fun k=>k<w.heap.size+2) 3 ex1 _ _ hx (by decide) (fun k hk=>by simp;omega) (hm.below hg hlow) (fun _=>ex1_len)
 rw[ex1_said] at h
 refine h.mono ?_
 rintro x w' ⟨rfl,hw⟩
 exact⟨rfl,hlow.trans (hw.mono hlow.size)⟩
theorem say2 (w:World) (hm:HasMax w) (hg:0<w.heap.size) (g1 g2:Nat) (h1:g1=w.heap.size) (h2:g2=w.heap.size+1):Calls Tryz.prog 8 #[.agg #[.int .i64 11,.int .i64 0,.string ⟨#[]⟩,.string ⟨#[]⟩,.string ⟨#[]⟩,.slice (some ⟨g2,0,none⟩) 2 2]] ((w.alloc (.cells #[.int .i64 4,.int .i64 0,.string ⟨#[]⟩,.string ⟨#[120]⟩,.string ⟨#[]⟩,.slice none 0 0] 32)).alloc (.cells #[.int .i64 19,.int .i64 0,.string ⟨#[]⟩,.string ⟨#[]⟩,.string ⟨#[]⟩,.slice (some ⟨g1,0,none⟩) 1 1,.int .i64 4,.int .i64 0,.string ⟨#[]⟩,.string ⟨#[121]⟩,.string ⟨#[]⟩,.slice none 0 0] 32)) fun x w'=>x=.returned (.tuple #[.string ⟨#[40,110,111,116,32,120,41,32,61,32,121]⟩,.int .i64 0])∧Below w.heap.size w w':=by
 have ha:ExsAt (fun k=>k<w.heap.size+2) 1 (w.alloc (.cells (varRow ⟨#[120]⟩).toArray 32)) (some ⟨g1,0,none⟩) 1 1 [vars ⟨#[120]⟩]:=exs_one _ h1 (by omega) (ex_var (by unfold okS;decide +kernel))
 have hb:=exs_two (F:=fun k=>k<w.heap.size+2) (d:=2) (w:=w.alloc (.cells (varRow ⟨#[120]⟩).toArray 32)) (g:=g2) 32 (r:=opRow 19 (some ⟨g1,0,none⟩) 1) (e:=opx 19 [vars ⟨#[120]⟩]) (r2:=varRow ⟨#[121]⟩) (e2:=vars ⟨#[121]⟩) (by simp[h2]) (by omega) (ex_opx (by decide) (by decide) (ha.below (laid_lt _ _))) (ex_var (by unfold okS;decide +kernel))
 have hx:=ex_opx (op:=11) (by decide) (by decide) hb
 have hlow:=(laid_lt w (.cells (varRow ⟨#[120]⟩).toArray 32)).alloc (by simp) (.cells (opRow 19 (some ⟨g1,0,none⟩) 1++varRow ⟨#[121]⟩).toArray 32)
 have h:=printExpr_any (fun k=>k<w.heap.size+2) 3 ex2 _ _ hx (by decide) (fun k hk=>by simp;omega) (hm.below hg hlow) (fun _=>ex2_len)
 rw[ex2_said] at h
 refine h.mono ?_
 rintro x w' ⟨rfl,hw⟩
 exact⟨rfl,hlow.trans (hw.mono hlow.size)⟩
theorem awakeP_any (w:World) (hm:HasMax w):Calls Tryz.prog 6 #[] w fun x w'=>x=.returned (.bool true)∧Below w.heap.size w w':=by
 obtain⟨w2,Hw2⟩:∃ w2,Hid (w2=((w.alloc (.cells #[.int .i64 4,.int .i64 0,.string ⟨#[]⟩,.string ⟨#[120]⟩,.string ⟨#[]⟩,.slice none 0 0] 32)).alloc (.cells #[.int .i64 4,.int .i64 0,.string ⟨#[]⟩,.string ⟨#[121]⟩,.string ⟨#[]⟩,.slice none 0 0] 32))):=⟨_,rfl⟩
 have hb2:Below w.heap.size w w2:=by rw[Hw2.out];exact(laid_lt _ _).alloc (by simp) _
 have hx2:IsBlk w2 w.heap.size 32 #[.int .i64 4,.int .i64 0,.string ⟨#[]⟩,.string ⟨#[120]⟩,.string ⟨#[]⟩,.slice none 0 0]:=by rw[Hw2.out];exact(IsBlk.laid _ _ _).as_was ((laid_lt _ _).block _ (by simp))
 have hy2:IsBlk w2 (w.heap.size+1) 32 #[.int .i64 4,.int .i64 0,.string ⟨#[]⟩,.string ⟨#[121]⟩,.string ⟨#[]⟩,.slice none 0 0]:=by rw[Hw2.out];exact laid_at (by simp) _ _
 have Hx:=Lhd (fun W (hW:Below w2.heap.size w2 W)=>box6 (hx2.as_was (hW.block _ hx2.lt)))
 have Hy:=Lhd (fun W (hW:Below w2.heap.size w2 W)=>box6 (hy2.as_was (hW.block _ hy2.lt)))
 have hmg:=Nat.lt_of_lt_of_le hm.lt hb2.size
 have H1:=Lhd (say1 w2 (hm.below hm.lt hb2) hmg w2.heap.size (w2.heap.size+1) rfl rfl)
 have H2:=Lhd (fun W (hW:Below w2.heap.size w2 W)=>say2 W ((hm.below hm.lt hb2).below hmg hW) (Nat.lt_of_lt_of_le hmg hW.size) W.heap.size (W.heap.size+1) rfl rfl)
 obtain⟨x0,x1,x2,x3,x4,x5,xl⟩:=Hx.out _ (Below.refl _ _)
 obtain⟨y0,y1,y2,y3,y4,y5,yl⟩:=Hy.out _ (Below.refl _ _)
 have Hb2:=Lhd hb2
 clear hb2 hx2 hy2 hmg hm
 go_enter Tryz.func6,Tryz.ntmps6
 go_upto_region 3 with (fail)
 rw[← Hw2.out]
 go_wp2_with (go_at_call 8;refine H1.out.mono ?_)
 rintro x w3 ⟨rfl,hb3⟩
 obtain⟨u0,u1,u2,u3,u4,u5,ul⟩:=Hx.out _ hb3
 obtain⟨v0,v1,v2,v3,v4,v5,vl⟩:=Hy.out _ hb3
 have H3:=Lhd (H2.out _ hb3)
 have Hb3:=Lhd hb3
 clear hb3 x0 x1 x2 x3 x4 x5 xl y0 y1 y2 y3 y4 y5 yl
 go_wp2_with (go_at_call 8;refine H3.out.mono ?_)
 rintro x w4 ⟨rfl,hb4⟩
 have Hb4:=Lhd (Hb2.out.trans ((Hb3.out.trans (hb4.mono Hb3.out.size)).mono Hb2.out.size))
 clear hb4
 go_wp2
 go_ret
 exact⟨ret_b (by simp),Hb4.out⟩
end Go.Proofs.YtdgapmnojmhllaaGreatDoor
namespace Go.Afx
open Go.RowKit
def sepsT (l:List (List UInt8)):List UInt8:=l.flatMap fun x=>[44,32]++x
def joinT:List (List UInt8)→List UInt8
 | []=>[]
 | a::r=>a++sepsT r
def indT (k:Nat):List UInt8:=List.replicate (2*k) 32
def blockT (f:Nat→St→List UInt8) (k:Nat) (l:List St):List UInt8 :=
 if l=[] then [123,125] else [123,10]++(l.flatMap fun x=>indT (k+1)++f (k+1) x++[10])++indT k++[125]
def rowsX (d:Nat) (name src:ByteArray):List Ex→List UInt8
 | []=>[]
 | a::_=>rowsT name src a.op a.n (txtE d a)
def setsT (d:Nat):List ByteArray→List Ex→List (List UInt8)
 | c::cs,e::es=>(c.data.toList++[32,61,32]++txtE d e)::setsT d cs es
 | _,_=>[]
def plainT (d:Nat) (op:Int) (name src:ByteArray) (cols:List ByteArray) (exprs:List Ex):List UInt8 :=
 if op=1 then [108,101,116,32]++name.data.toList++[32,61,32]++joinT (exprs.map (txtE d))
 else if op=2 then [115,101,116,32]++name.data.toList++[32,61,32]++joinT (exprs.map (txtE d))
 else if op=3 then [105,110,115,101,114,116,32]++src.data.toList++[40]++joinT (exprs.map (txtE d))++[41]
 else if op=8 then [101,109,105,116,32]++src.data.toList++[40]++joinT (exprs.map (txtE d))++[41]
 else if op=4 then [117,112,100,97,116,101,32]++rowsX d name src exprs++[32,115,101,116,32]++joinT (setsT d cols exprs.tail)
 else if op=5 then [100,101,108,101,116,101,32]++rowsX d name src exprs
 else if op=9 then [97,98,111,114,116,32]++joinT (exprs.map (txtE d))
 else [114,101,112,108,121,32]++joinT (exprs.map (txtE d))
def firstT (d:Nat):List Ex→List UInt8
 | []=>[]
 | a::_=>txtE d a
def txtS:Nat→Nat→St→List UInt8
 | 0,_,_=>[]
 | d+1,k,x =>
  if x.op=6 then [102,111,114,32]++rowsX d x.name x.src x.exprs++(if 0<x.n then [32,108,105,109,105,116,32]++decS x.n else [])++[32]++blockT (txtS d) k x.body
  else if x.op=7 then [105,102,32]++firstT d x.exprs++[32]++blockT (txtS d) k x.body++(if x.els=[] then [] else [32,101,108,115,101,32]++blockT (txtS d) k x.els)
  else plainT d x.op x.name x.src x.cols x.exprs++[59]
def nlS:Nat→St→Bool
 | 0,_=>false
 | d+1,x=>x.exprs.any (nlE d)||x.body.any (nlS d)||x.els.any (nlS d)
def kindT (k:Int):List UInt8:=if k=1 then [105,110,116] else if k=2 then [116,101,120,116] else [98,111,111,108]
def paramT (c:Co):List UInt8:=c.name.data.toList++[32]++kindT c.kind
def txtP (d:Nat) (p:Pr):List UInt8 :=
 [112,114,111,99,32]++p.name.data.toList++[40]++joinT (p.params.map paramT)++[41]++(if noS p.part then [] else [32,111,110,32]++p.part.data.toList) ++
 (if noS p.src then [] else [32,102,114,111,109,32]++p.src.data.toList)++(if p.fuel=100 then [] else [32,102,117,101,108,32]++decS p.fuel)++[32]++blockT (txtS d) 0 p.body
def nlP (d:Nat) (p:Pr):Bool:=p.body.any (nlS d)
end Go.Afx
