/- Parts of this proof, one behind the other: ParZ7, LwP, LxA, RtA, RtB, RtC, RtD. -/
import Derived.Test.YtjjfkhbajidmdaaGreatDoorPb40
import Derived.Test.YtjjfkhbajidmdaaGreatDoorPb17
import Derived.Test.YtjjfkhbajidmdaaGreatDoorPb37
set_option maxRecDepth 1000000
set_option maxHeartbeats 40000000
namespace Go.Proofs.YtjjfkhbajidmdaaGreatDoor
open Go.RowKit Go.Afx
theorem UO {α:Type} (z:α) (right:α→Bool) (run:aV→au→α×au) (L:List UInt8):((uP z right run L).2.2=0→(uP z right run L).2.1=0)∧((uP z right run L).2.2≠0→(uP z right run L).1=z):=by
 unfold uP
 split
 ·exact⟨fun h=>(by cases h),fun _=>rfl⟩
 ·split
  ·exact⟨fun h=>(by cases h),fun _=>rfl⟩
  ·unfold Ib
   split
   ·exact⟨fun h=>(by cases h),fun _=>rfl⟩
   ·split
    ·exact⟨fun h=>(by cases h),fun _=>rfl⟩
    ·split
     ·exact⟨fun _=>rfl,fun h=>absurd rfl h⟩
     ·exact⟨fun h=>(by cases h),fun _=>rfl⟩
theorem Lp {fn:Func} {p u v:Tmp} {tmps:Array Value} {w:World} {g:Nat} {t:TypeId} {cs:Array Value} {x y:Value} (h:fn.results=#[.cell p 30,.tmp u,.tmp v]) (hp:tmps.getD p undef=.pointer (some ⟨g,0,none⟩)) (hk:af w g t cs) (hz:cs.size=6) (hv:tmps.getD u undef=x) (hy:tmps.getD v undef=y):(results fn tmps).run Tryz.prog w=.ok (.tuple #[.agg cs,x,y]) w:=by
 have h2:=run_loadVar_row (P:=Tryz.prog) w g t 30 cs (0,0) _ hk Tryz.underlying30 rfl (by rw[hz];exact abO)
 simp only[results,h]
 have e1:tmps[p]?.getD undef=.pointer (some ⟨g,0,none⟩):=by simpa using hp
 have e2:tmps[u]?.getD undef=x:=by simpa using hv
 have e3:tmps[v]?.getD undef=y:=by simpa using hy
 simp[Result.andThen,e1,e2,e3,asAddr,h2]
def Lr (w:World) (x:Pr×Int×Int) (e:Ending) (w':World):Prop:=(∃ row,e=.returned (.tuple #[.agg row.toArray,.int .i64 x.2.1,.int .i64 x.2.2])∧lH (Fr w) 9000 w' row x.1)∧Below w.heap.size w w'∧x.1.params.length≤1000000
theorem aiw (F:Nat→Prop) (w:World):lH F 9000 w [.string ⟨#[]⟩,.string ⟨#[]⟩,.string ⟨#[]⟩,.int .i64 0,.slice none 0 0,.slice none 0 0] V7:=⟨lT,lT,lT,xu,none,0,0,none,0,0,rfl,ai.nil_ _ _ _ _,gK _ _ _⟩
theorem Ky (s:ByteArray) (w:World):Calls Tryz.prog 7 #[.string s] w (Lr w (vU s.data.toList)):=by
 obtain⟨w1,Hw1⟩:∃ w1,Hid (w1=(w.alloc (.cells Ea 30)).alloc (.cells Ea 30)):=⟨_,rfl⟩
 have hb1:Below w.heap.size w w1:=by rw[Hw1.out];exact((Below.refl _ _).alloc (Nat.le_refl _) _).alloc (by simp) _
 have hkr:af w1 w.heap.size 30 Ea:=by rw[Hw1.out];exact(af.laid _ _ _).alloc _
 have hkx:af w1 (w.heap.size+1) 30 Ea:=by rw[Hw1.out];exact jr (by simp)
 have hsz:w1.heap.size=w.heap.size+2:=by rw[Hw1.out];simp
 have hp:=JK s (w.heap.size+1) w.heap.size w1 hkx (by omega)
 have hz:=UO V7 (cZ 9000) jT s.data.toList
 have hz:((vU s.data.toList).2.2=0→(vU s.data.toList).2.1=0)∧((vU s.data.toList).2.2≠0→(vU s.data.toList).1=V7):=hz
 generalize vU s.data.toList=x at *
 obtain⟨p,at_,er⟩:=x
 simp only at hz
 have Hp:=ae hp
 have Hz:=ae hz
 have Hk:=ae (And.intro hb1 (And.intro hkr hsz))
 clear hp hz hb1 hkr hkx hsz
 go_enter Tryz.func7,Tryz.ntmps7
 go_upto_region 2 with (fail)
 rw[← Hw1.out]
 go_wp2_with (fail)
 refine Hp.out.mono ?_
 rintro e w2 ⟨rfl,hB,hpr⟩
 have hsz:=Hk.out.2.2
 have UB:=Hk.out.2.1.ag (hB.block _ Hk.out.2.1.lt (by omega))
 obtain⟨x0,x1,x2,x3,x4,x5,xl⟩:=aH UB
 have f2:=UB.frozen
 have hb2:Below w.heap.size w w2:=Hk.out.1.trans (hB.below' (by omega) (fun i hi=>by omega))
 have H2:=ae (And.intro UB hb2)
 have Hpr:=ae hpr
 clear hB hpr hsz UB hb2
 have aly:∀ (v0 v1 v2 v3 v4 v5:Value),Below w.heap.size w (uJ w2 w.heap.size v0 v1 v2 v3 v4 v5):=fun v0 v1 v2 v3 v4 v5=>H2.out.2.trans ((fP w2 w.heap.size v0 v1 v2 v3 v4 v5).below' H2.out.2.size (fun i hi=>by omega))
 have alz:=ae aly
 clear aly
 rcases Classical.em (er=0) with he|he
 ·have q0:(er==0)=true:=by rw[beq_iff_eq];exact he
  have q1:(er !=0)=false:=by simp[he]
  obtain⟨⟨row,hkx,hpr⟩,hfew⟩:=Hpr.out he
  have hat:=Hz.out.1 he
  subst hat
  subst he
  have aob:=hpr
  obtain⟨_,_,_,_,Ap,np,cp,Ab,nb,cb,rfl,_⟩:=aob
  obtain⟨y0,y1,y2,y3,y4,y5,yl⟩:=aH hkx
  have aoc:=ae hpr
  have aiv:=ae hfew
  clear hfew
  clear hpr hkx q0 q1
  go_wp2
  rw[bJ]
  refine bodyPost_ret (Lp Tryz.results7 rfl (fO _ _ _ _ _ _ H2.out.1) rfl rfl rfl) rfl ⟨⟨_,rfl,?_⟩,alz.out _ _ _ _ _ _,aiv.out⟩
  exact lH.conv (fun k (hk:w1.heap.size≤k)=>by show w.heap.size≤k;have:=Hk.out.2.2;omega) (Kept.aN (fP w2 w.heap.size _ _ _ _ _ _) fun k (hk:w1.heap.size≤k) e=>by have:=Hk.out.2.2;omega) (Nat.le_refl 9000) aoc.out
 ·have q1:(er !=0)=true:=by simpa using he
  have q0:(er==0)=false:=by simpa using he
  have hz:=Hz.out.2 he
  subst hz
  clear he
  go_wp2
  rw[bJ]
  exact bodyPost_ret (Lp Tryz.results7 rfl (fO _ _ _ _ _ _ H2.out.1) rfl rfl rfl) rfl ⟨⟨_,rfl,aiw _ _⟩,alz.out _ _ _ _ _ _,Nat.zero_le _⟩
def aeQ (L:List UInt8) (k:Nat):Prop:=k<L.length∧∃ c,L[k]?=some c∧QW c=false
def amr (L:List UInt8) (at_ er:Int):Prop :=
 (er=0∧at_=0)∨(er=5∧at_=0∧8000<L.length)∨(er=14∧at_=0∧¬ 8000<L.length)∨(er=12∧∃ k:Nat,at_=k∧(k=L.length∨aeQ L k))
def key (x:Wd):Int×ByteArray×Int:=(x.kind,x.text,x.n)
def aix (x:Nx):Int×ByteArray×Int:=(x.kind,str x.text,x.n)
inductive acj:List UInt8→List (Int×ByteArray×Int)→Prop
 | nil:acj [] []
 | cons {s:List UInt8} {x:Nx} {ks:List (Int×ByteArray×Int)} (hs:s≠[]) (hx:jZ s=some x) (h:acj ((s.drop x.len).drop (blk false (s.drop x.len))) ks):acj s (aix x::ks)
def kZ (s:List UInt8) (ks:List (Int×ByteArray×Int)):Prop:=acj (s.drop (blk false s)) ks
theorem aeR {s:List UInt8} {ks:List (Int×ByteArray×Int)} (h:acj s ks):∀ (f a:Nat),s.length<f→∃ ws,Nu f a s=.inr ws∧ws.map key=ks:=by
 induction h with
 | nil =>
  intro f a hf
  obtain⟨f,rfl⟩:∃ k,f=k+1:=⟨f-1,by omega⟩
  exact⟨[],rfl,rfl⟩
 | @cons s x ks hs hx h ih =>
  intro f a hf
  obtain⟨f,rfl⟩:∃ k,f=k+1:=⟨f-1,by omega⟩
  obtain⟨l1,l2⟩:=QZ hx
  obtain⟨ws,h1,h2⟩:=ih f (a+x.len+blk false (s.drop x.len)) (by rw[List.length_drop,List.length_drop];omega)
  refine⟨⟨x.kind,str x.text,x.n,a⟩::ws,?_,by rw[List.map_cons,h2];rfl⟩
  rw[V5 _ _ _ hs,hx]
  simp only
  rw[h1]
  rfl
theorem aeS {L:List UInt8} {ks:List (Int×ByteArray×Int)} (h:kZ L ks):∃ ws,QY L=.inr ws∧ws.map key=ks:=aeR h _ _ (by rw[List.length_drop];omega)
/- what stands behind -/
theorem zY (a:UInt8) (r:List UInt8):jZ (a::r)=if lexB a then pI (a::r) else if a.toNat=39 then lV (a::r) else F7 (a::r):=by simp[jZ]
def alA:List UInt8:=[41,32,47,47,32,41,32,109,111,114,101,10]
def apj (s:List UInt8):List UInt8:=32::40::32::(s++32::10::alA)
end Go.Proofs.YtjjfkhbajidmdaaGreatDoor
namespace Go.Afx
open Go.RowKit
abbrev Key:=Int×ByteArray×Int
def Wd.key (x:Wd):Key:=(x.kind,x.text,x.n)
def bK (t:List UInt8):Key:=(0,str t,0)
def dY (t:List UInt8):Key:=(3,str t,0)
def kP (b:ByteArray):Key:=(3,b,0)
def aj (k:Key) (t:ByteArray):Bool:=(decide (k.1=0)||decide (k.1=3))&&decide (k.2.1=t)
def dK (ks:List Key):Key:=ks.head?.getD (4,str [],0)
def At (W:aV) (i:Nat) (ks:List Key):Prop:=(W.l.drop i).map Wd.key=ks∧i≤W.l.length
def bV (i:Nat) (k:Int):au:=⟨i,k,false,false⟩
theorem At.look {W:aV} {i:Nat} {ks:List Key} (h:At W i ks):(W.look i).key=dK ks:=by
 obtain⟨rfl,_⟩:=h
 unfold dK aV.look
 rw[List.head?_map,List.head?_drop]
 cases W.l[i]?<;>rfl
theorem At.next {W:aV} {i:Nat} {k:Key} {ks:List Key} (h:At W i (k::ks)):At W (i+1) ks:=by
 obtain⟨h1,h2⟩:=h
 have h3:i<W.l.length:=by
  rcases Nat.lt_or_ge i W.l.length with h3|h3
  ·exact h3
  ·rw[List.drop_eq_nil_of_le h3] at h1;cases h1
 rw[List.drop_eq_getElem_cons h3] at h1
 exact⟨(List.cons.inj h1).2,h3⟩
theorem At.skip {W:aV}:∀ {a:List Key} {i:Nat} {ks:List Key},At W i (a++ks)→At W (i+a.length) ks:=by
 intro a
 induction a with
 | nil=>intro i ks h;exact h
 | cons k a ih =>
  intro i ks h
  have:=ih (At.next h)
  rw[List.length_cons,show i+(a.length+1)=i+1+a.length by omega]
  exact this
theorem At.len {W:aV} {i:Nat} {ks:List Key} (h:At W i ks):i+ks.length=W.l.length:=by
 obtain⟨rfl,h⟩:=h
 rw[List.length_map,List.length_drop];omega
section
variable {W:aV} {i:Nat} {ks:List Key} {k:Int}
theorem mX (h:At W i ks) (t:ByteArray):jO W (bV i k) t=aj (dK ks) t:=by
 have:=h.look
 unfold jO Wd.says aj
 rw[← this]
 rfl
theorem iR (h:At W i ks) (t:ByteArray):ay W t (bV i k)=if aj (dK ks) t then (true,bV (i+1) k) else (false,bV i k):=by
 unfold ay
 rw[mX h]
 rfl
theorem jE (h:At W i ks) {t:ByteArray} (ht:aj (dK ks) t=true):ay W t (bV i k)=(true,bV (i+1) k):=by rw[iR h,ht];rfl
theorem jw (h:At W i ks) {t:ByteArray} (ht:aj (dK ks) t=false):ay W t (bV i k)=(false,bV i k):=by rw[iR h,ht];rfl
theorem gq (h:At W i ks) {t:ByteArray} (ht:aj (dK ks) t=true):ak W [t] (bV i k)=bV (i+1) k:=by
 unfold ak
 rw[jE h ht,if_pos rfl]
 rfl
theorem enter_at (h0:0≤k) (h1:k<60):aG (bV i k)=bV i (k+1):=by
 have e:wrap64 (k+1)=k+1:=by unfold wrap64;omega
 unfold aG upP bV
 simp only[e]
 rw[if_neg (by simp;omega)]
theorem o9 (h0:0≤k) (h1:k<60):dw (bV i (k+1))=bV i k:=by
 have e:wrap64 (k+1-1)=k:=by unfold wrap64;omega
 unfold dw bV
 simp only[e]
theorem jG (h:At W i ks):(W.look i).kind=(dK ks).1:=by rw[← h.look];rfl
theorem Ls (h:At W i ks):(W.look i).text=(dK ks).2.1:=by rw[← h.look];rfl
theorem UQ (h:At W i ks):(W.look i).n=(dK ks).2.2:=by rw[← h.look];rfl
theorem kQ {b:ByteArray} (h:At W i (kP b::ks)) (hb:tu b=false):aS W (bV i k)=(b,bV (i+1) k):=by
 have h1:(W.look (bV i k).at_).kind=3:=jG h
 have h2:(W.look (bV i k).at_).text=b:=Ls h
 unfold aS
 rw[h1,h2,hb,if_neg (by simp[bV])]
 rfl
theorem ack {b:ByteArray} {n:Int} (h:At W i ((1,b,n)::ks)):mP W (bV i k)=(n,bV (i+1) k):=by
 have h1:(W.look (bV i k).at_).kind=1:=jG h
 have h2:(W.look (bV i k).at_).n=n:=UQ h
 unfold mP
 rw[h1,h2,if_neg (by simp[bV]),if_pos rfl]
 rfl
end
def V8 (l:List (ByteArray×Int)) (ks:List Key):Prop:=∀ x∈l,aj (dK ks) x.1=false
theorem V9 {W:aV} {i:Nat} {ks:List Key} {k:Int} (h:At W i ks):∀ {l:List (ByteArray×Int)},V8 l ks→jH W l (bV i k)=(0,bV i k):=by
 intro l
 induction l with
 | nil=>intro _;rfl
 | cons x l ih =>
  intro hn
  obtain⟨t,op⟩:=x
  unfold jH
  rw[jw h (hn (t,op) (by simp)),if_neg Bool.false_ne_true]
  exact ih (fun y hy=>hn y (by simp[hy]))
def UR:List (ByteArray×Int)→Key→Int
 | [],_=>0
 | (t,op)::r,k=>if aj k t then op else UR r k
theorem aeT {W:aV} {i:Nat} {ks:List Key} {k:Int} (h:At W i ks):∀ {l:List (ByteArray×Int)},(∀ x∈l,x.2≠0)→UR l (dK ks)≠0→jH W l (bV i k)=(UR l (dK ks),bV (i+1) k):=by
 intro l
 induction l with
 | nil=>intro _ h;exact absurd rfl h
 | cons x l ih =>
  intro hl h0
  obtain⟨t,op⟩:=x
  unfold jH
  unfold UR at h0 ⊢
  cases hk:aj (dK ks) t with
  | true=>rw[jE h hk,if_pos rfl];rfl
  | false =>
   rw[jw h hk,if_neg Bool.false_ne_true]
   rw[hk,if_neg (by decide)] at h0
   exact ih (fun y hy=>hl y (by simp[hy])) h0
end Go.Afx
namespace Go.Afx
open Go.RowKit
def gV (op:Int):Key:=if op=17 then dY [97,110,100] else if op=18 then dY [111,114] else if op=19 then dY [110,111,116] else if 21≤op then dY (jQ op) else bK (jQ op)
def df (op:Int):Nat:=if op=18 then 1 else if op=17 then 2 else if op=19 then 3 else if 11≤op∧op≤16 then 4 else if 6≤op∧op≤7 then 5 else if 8≤op∧op≤10 then 6 else if op=20 then 7 else 8
theorem Iy {op:Int} (h1:1≤op) (h2:op≤24):iM op=(df op:Nat):=by
 rcases IL h1 h2 with rfl|rfl|rfl|rfl|rfl|rfl|rfl|rfl|rfl|rfl|rfl|rfl|rfl|rfl|rfl|rfl|rfl|rfl|rfl|rfl|rfl|rfl|rfl|rfl<;>decide
def eX (L:Nat) (op:Int) (t:List Key):List Key:=if df op<L then [bK [40]]++t++[bK [41]] else t
def lW (op n:Int) (t:List Key):List Key:=if op=3∧n=1 then [] else dY [119,104,101,114,101]::t
def ig (name src:ByteArray) (op n:Int) (t:List Key):List Key:=[kP name,dY [105,110],kP src]++lW op n t
def tokE:Nat→Ex→List Key
 | 0,_=>[]
 | d+1,e =>
  if e.op=1 then [(1,str (dU e.n),e.n)]
  else if e.op=2 then [(2,e.s,0)]
  else if e.op=3 then [dY (if e.n=1 then jR else gz)]
  else if e.op=4 then [kP e.name]
  else if e.op=5 then [kP e.name,bK [46],kP e.s]
  else match e.args with
   | []=>[]
   | a::r =>
    if e.op=19∨e.op=20 then gV e.op::eX (df e.op) a.op (tokE d a)
    else if 21≤e.op then [gV e.op,bK [40]]++(ig e.name e.src a.op a.n (tokE d a)++((if e.op=21 then [] else bK [58]::(match r with|[]=>[]|b::_=>tokE d b))++[bK [41]]))
    else eX (df e.op+if df e.op=4 then 1 else 0) a.op (tokE d a)++(gV e.op::(match r with|[]=>[]|b::_=>eX (df e.op+1) b.op (tokE d b)))
section
variable (W:aV) (E:au→Ex×au)
def Kz (g:Nat):Nat→au→Ex×au
 | 1=>ed W MK (Jb W E)
 | 2=>Jb W E
 | 3=>notP W E g
 | 4=>DK W E
 | 5=>sumP W E
 | 6=>uG W E
 | 7=>dG W E g
 | _=>eY W E
def ND (L:Nat):Prop:=L=1∨L=2∨L=5∨L=6
instance (L:Nat):Decidable (ND L):=by unfold ND;exact inferInstance
def EX (L:Nat):List (ByteArray×Int):=if L=1 then MK else if L=2 then FU else if L=4 then ji else if L=5 then FV else if L=6 then FW else []
theorem aiy {g L:Nat} (h:ND L) (s:au):Kz W E g L s=jq W (EX L) (Kz W E W.fuel (L+1)) W.fuel (Kz W E W.fuel (L+1) s).1 (Kz W E W.fuel (L+1) s).2:=by
 rcases h with rfl|rfl|rfl|rfl<;>rfl
def Reach (g L:Nat) (s:au) (e:Ex) (s':au):Prop :=
 if ND L then ∃ F,W.fuel≤F+(s'.at_-s.at_)∧Kz W E g L s=jq W (EX L) (Kz W E W.fuel (L+1)) F e s' else Kz W E g L s=(e,s')
end
def pY (L:Nat) (ks:List Key):Prop:=(∀ M,L≤M→V8 (EX M) ks)∧aj (dK ks) (str [46])=false
theorem pY.mono {L M:Nat} {ks:List Key} (h:pY L ks) (hL:L≤M):pY M ks:=⟨fun N hN=>h.1 N (Nat.le_trans hL hN),h.2⟩
theorem X4 {W:aV} {i:Nat} {ks:List Key} {k:Int} {l:List (ByteArray×Int)} {one:au→Ex×au} (h:At W i ks) (hn:V8 l ks):∀ F e,jq W l one F e (bV i k)=(e,bV i k):=by
 intro F e
 cases F with
 | zero=>rfl
 | succ F =>
  unfold jq
  rw[V9 h hn,if_pos rfl]
theorem Reach.done {W:aV} {E:au→Ex×au} {g L i j:Nat} {ks:List Key} {k:Int} {e:Ex} (h:Reach W E g L (bV i k) e (bV j k)) (hj:At W j ks) (hn:pY L ks):Kz W E g L (bV i k)=(e,bV j k):=by
 unfold Reach at h
 split at h
 ·obtain⟨F,_,h⟩:=h
  rw[h]
  exact X4 hj (hn.1 L (Nat.le_refl _)) F e
 ·exact h
theorem Reach.up {W:aV} {E:au→Ex×au} {g L i j:Nat} {ks kz:List Key} {k:Int} {e:Ex} (hL:L<8) (hL1:1≤L) (hi:At W i kz) (h:Kz W E W.fuel (L+1) (bV i k)=(e,bV j k)) (hg0:0<g) (hj:At W j ks) (hn:pY (if L=4 then 4 else L+1) ks)
  (h3:L=3→aj (dK kz) (str [110,111,116])=false) (h7:L=7→aj (dK kz) (str [45])=false):Reach W E g L (bV i k) e (bV j k):=by
 have hc:L=3∨L=4∨L=7∨ND L:=by unfold ND;omega
 obtain⟨g,rfl⟩:∃ m,g=m+1:=⟨g-1,by omega⟩
 unfold Reach
 rcases hc with rfl|rfl|rfl|hc
 ·rw[if_neg (by decide)]
  show notP W E (g+1) _=_
  unfold notP
  rw[jw hi (h3 rfl),if_neg Bool.false_ne_true]
  exact h
 ·rw[if_neg (by decide)]
  have h:sumP W E (bV i k)=(e,bV j k):=h
  show DK W E _=_
  unfold DK
  simp only
  rw[h]
  simp only
  have hn4:V8 ji ks:=hn.1 4 (by simp)
  rw[V9 hj hn4,if_pos rfl]
 ·rw[if_neg (by decide)]
  show dG W E (g+1) _=_
  unfold dG
  rw[jw hi (h7 rfl),if_neg Bool.false_ne_true]
  exact h
 ·rw[if_pos hc]
  refine⟨W.fuel,by omega,?_⟩
  rw[aiy W E hc,h]
end Go.Afx
namespace Go.Afx
open Go.RowKit
theorem Ej {l:List Nat} {x:Nat} (h:x∈l):x≤iJ l:=by
 induction l with
 | nil=>cases h
 | cons a r ih =>
  rw[lu]
  rcases List.mem_cons.1 h with rfl|h
  ·omega
  ·have:=ih h;omega
theorem vM {d:Nat} {op n:Int} {s name src:ByteArray} {l:List Ex} {x:Ex} (h:x∈l):dQ d x+1≤dQ (d+1) (.mk op n s name src l):=by
 have:=Ej (List.mem_map.2 ⟨x,h,rfl⟩:dQ d x∈l.map (dQ d))
 rw[dQ]
 show _≤1+iJ (l.map (dQ d))
 omega
theorem mY {b:ByteArray} (h:aJ b=true) {t:ByteArray} (ht:aJ t=false):aj (kP b) t=false:=by
 have:b≠t:=by rintro rfl;rw[h] at ht;cases ht
 unfold aj kP
 simp[this]
theorem jF {b:ByteArray} (h:aJ b=true):tu b=false:=by
 unfold aJ at h
 simp only[Bool.and_eq_true,Bool.not_eq_true'] at h
 exact h.2
theorem dX {b:ByteArray} (h:noS b=true):b=nil0:=of_decide_eq_true h
/- how words are laid -/
theorem Em {L:Nat} {op:Int} {t:List Key} (h:df op<L):eX L op t=[bK [40]]++t++[bK [41]]:=by unfold eX;rw[if_pos h]
theorem je {L:Nat} {op:Int} {t:List Key} (h:¬ df op<L):eX L op t=t:=by unfold eX;rw[if_neg h]
section
variable {d:Nat} {op n:Int} {s name src:ByteArray} {a b:Ex} {l:List Ex}
theorem NF (h1:6≤op) (h2:op≤18):tokE (d+1) (.mk op n s name src [a,b])=eX (df op+if df op=4 then 1 else 0) a.op (tokE d a)++(gV op::eX (df op+1) b.op (tokE d b)):=by
 have g1:¬ op=1:=by omega
 have g2:¬ op=2:=by omega
 have g3:¬ op=3:=by omega
 have g4:¬ op=4:=by omega
 have g5:¬ op=5:=by omega
 have g6:¬ (op=19∨op=20):=by omega
 have g7:¬ 21≤op:=by omega
 simp only[tokE,Ex.op,Ex.args,g1,g2,g3,g4,g5,g6,g7,if_false]
 rfl
theorem Iz (h:op=19∨op=20):tokE (d+1) (.mk op n s name src [a])=gV op::eX (df op) a.op (tokE d a):=by
 have g1:¬ op=1:=by omega
 have g2:¬ op=2:=by omega
 have g3:¬ op=3:=by omega
 have g4:¬ op=4:=by omega
 have g5:¬ op=5:=by omega
 simp only[tokE,Ex.op,Ex.args,g1,g2,g3,g4,g5,h,if_false,if_true]
theorem EY:tokE (d+1) (.mk 21 n s name src [a])=[gV 21,bK [40]]++(ig name src a.op a.n (tokE d a)++[bK [41]]):=by
 rw[tokE]
 simp only[Ex.op,Ex.args,Ex.name,Ex.src]
 rfl
theorem JL (h1:22≤op):tokE (d+1) (.mk op n s name src [a,b])=[gV op,bK [40]]++(ig name src a.op a.n (tokE d a)++(bK [58]::(tokE d b++[bK [41]]))):=by
 have g1:¬ op=1:=by omega
 have g2:¬ op=2:=by omega
 have g3:¬ op=3:=by omega
 have g4:¬ op=4:=by omega
 have g5:¬ op=5:=by omega
 have g6:¬ (op=19∨op=20):=by omega
 have g7:21≤op:=by omega
 have g8:¬ op=21:=by omega
 simp only[tokE,Ex.op,Ex.args,Ex.name,Ex.src,g1,g2,g3,g4,g5,g6,g7,g8,if_false,if_true]
 rfl
end
theorem pg {d:Nat} {e:Ex} (h:aA (d+1) e=true) :
  (∃ n,0≤n∧e=.mk 1 n nil0 nil0 nil0 [])∨(∃ s,s.size≤200∧e=.mk 2 0 s nil0 nil0 [])∨(∃ n,(n=0∨n=1)∧e=.mk 3 n nil0 nil0 nil0 []) ∨
  (∃ name,aJ name=true∧e=.mk 4 0 nil0 name nil0 [])∨(∃ s name,aJ name=true∧aJ s=true∧e=.mk 5 0 s name nil0 []) ∨
  (∃ op a b,6≤op∧op≤18∧aA d a=true∧aA d b=true∧e=cO op a b)∨(∃ op a,(op=19∨op=20)∧aA d a=true∧e=tC op a) ∨
  (∃ name src a,aJ name=true∧aJ src=true∧aA d a=true∧e=.mk 21 0 nil0 name src [a]) ∨
  (∃ op name src a b,22≤op∧op≤24∧aJ name=true∧aJ src=true∧aA d a=true∧aA d b=true∧e=.mk op 0 nil0 name src [a,b]):=by
 obtain⟨ha,hf,hb⟩:=oI h
 obtain⟨op,n,s,name,src,l⟩:=e
 simp only[Ex.op,Ex.n,Ex.s,Ex.name,Ex.src,Ex.args] at ha hf hb
 have h0:op=1∨op=2∨op=3∨op=4∨op=5∨(6≤op∧op≤18)∨(op=19∨op=20)∨op=21∨(22≤op∧op≤24):=by
  have:=P7 ha
  omega
 have hl0:iY op=0→l=[]:=fun h=>List.eq_nil_of_length_eq_zero (by omega)
 have hl1:iY op=1→∃ a,l=[a]:=fun h=>List.length_eq_one_iff.1 (by omega)
 have hl2:iY op=2→∃ a b,l=[a,b]:=fun h=>by
  have h2:l.length=2:=by omega
  match l,h2 with
  | [a,b],_=>exact⟨a,b,rfl⟩
 unfold bT at hf
 rcases h0 with rfl|rfl|rfl|rfl|rfl|⟨h1,h2⟩|h1|rfl|⟨h1,h2⟩
 ·obtain rfl:=hl0 (by decide)
  simp at hf
  obtain⟨⟨⟨h1,h2⟩,h3⟩,h4⟩:=hf
  exact .inl ⟨n,h1,by rw[dX h2,dX h3,dX h4]⟩
 ·obtain rfl:=hl0 (by decide)
  simp at hf
  obtain⟨⟨⟨h1,rfl⟩,h3⟩,h4⟩:=hf
  exact .inr (.inl ⟨s,h1,by rw[dX h3,dX h4]⟩)
 ·obtain rfl:=hl0 (by decide)
  simp at hf
  obtain⟨⟨⟨h1,h2⟩,h3⟩,h4⟩:=hf
  exact .inr (.inr (.inl ⟨n,h1,by rw[dX h2,dX h3,dX h4]⟩))
 ·obtain rfl:=hl0 (by decide)
  simp at hf
  obtain⟨⟨⟨h1,rfl⟩,h3⟩,h4⟩:=hf
  exact .inr (.inr (.inr (.inl ⟨name,h1,by rw[dX h3,dX h4]⟩)))
 ·obtain rfl:=hl0 (by decide)
  simp at hf
  obtain⟨⟨⟨h1,h2⟩,rfl⟩,h4⟩:=hf
  exact .inr (.inr (.inr (.inr (.inl ⟨s,name,h1,h2,by rw[dX h4]⟩))))
 ·obtain⟨a,b,rfl⟩:=hl2 (by unfold iY;rw[if_neg (by omega),if_pos ⟨h1,h2⟩])
  rw[if_neg (by omega),if_neg (by omega),if_neg (by omega),if_neg (by omega),if_neg (by omega),if_neg (by unfold lM;simp;omega)] at hf
  simp only[Bool.and_eq_true,decide_eq_true_eq] at hf
  obtain⟨⟨⟨rfl,h4⟩,h5⟩,h6⟩:=hf
  exact .inr (.inr (.inr (.inr (.inr (.inl ⟨op,a,b,h1,h2,hb a (by simp),hb b (by simp),by rw[dX h4,dX h5,dX h6];rfl⟩)))))
 ·obtain⟨a,rfl⟩:=hl1 (by rcases h1 with rfl|rfl<;>decide)
  rw[if_neg (by omega),if_neg (by omega),if_neg (by omega),if_neg (by omega),if_neg (by omega),if_neg (by unfold lM;simp;omega)] at hf
  simp only[Bool.and_eq_true,decide_eq_true_eq] at hf
  obtain⟨⟨⟨rfl,h4⟩,h5⟩,h6⟩:=hf
  exact .inr (.inr (.inr (.inr (.inr (.inr (.inl ⟨op,a,h1,hb a (by simp),by rw[dX h4,dX h5,dX h6];rfl⟩))))))
 ·obtain⟨a,rfl⟩:=hl1 (by decide)
  simp[lM] at hf
  obtain⟨⟨⟨h1,h2⟩,rfl⟩,h4⟩:=hf
  exact .inr (.inr (.inr (.inr (.inr (.inr (.inr (.inl ⟨name,src,a,h1,h2,hb a (by simp),by rw[dX h4]⟩)))))))
 ·obtain⟨a,b,rfl⟩:=hl2 (by unfold iY;rw[if_neg (by omega),if_neg (by omega),if_neg (by omega),if_neg (by omega),if_pos ⟨h1,h2⟩])
  rw[if_neg (by omega),if_neg (by omega),if_neg (by omega),if_neg (by omega),if_neg (by omega),if_pos (by unfold lM;simp;omega)] at hf
  simp only[Bool.and_eq_true,decide_eq_true_eq] at hf
  obtain⟨⟨⟨h4,h5⟩,rfl⟩,h6⟩:=hf
  exact .inr (.inr (.inr (.inr (.inr (.inr (.inr (.inr ⟨op,name,src,a,b,h1,h2,h4,h5,hb a (by simp),hb b (by simp),by rw[dX h6]⟩)))))))
theorem JM:∀ (d:Nat) (e:Ex),aA d e=true→∀ r,(4≤df e.op→aj (dK (tokE d e++r)) (str [110,111,116])=false)∧(df e.op=8→aj (dK (tokE d e++r)) (str [45])=false):=by
 intro d
 induction d with
 | zero=>intro e h;cases h
 | succ d ih =>
  intro e h r
  rcases pg h with ⟨n,_,rfl⟩|⟨s,_,rfl⟩|⟨n,hn,rfl⟩|⟨name,hf,rfl⟩|⟨s,name,hf,_,rfl⟩|⟨op,a,b,h1,h2,ha,_,rfl⟩|⟨op,a,h1,ha,rfl⟩|⟨name,src,a,_,_,_,rfl⟩|⟨op,name,src,a,b,h1,h2,_,_,_,_,rfl⟩
  ·exact⟨fun _=>rfl,fun _=>rfl⟩
  ·exact⟨fun _=>rfl,fun _=>rfl⟩
  ·rcases hn with rfl|rfl
   ·exact⟨fun _=>by show aj (dY gz) _=false;decide +kernel,fun _=>by show aj (dY gz) _=false;decide +kernel⟩
   ·exact⟨fun _=>by show aj (dY jR) _=false;decide +kernel,fun _=>by show aj (dY jR) _=false;decide +kernel⟩
  ·exact⟨fun _=>mY hf (by decide +kernel),fun _=>mY hf (by decide +kernel)⟩
  ·exact⟨fun _=>mY hf (by decide +kernel),fun _=>mY hf (by decide +kernel)⟩
  ·have e8:df (cO op a b).op≠8:=by show df op≠8;unfold df;(repeat' split)<;>omega
   refine⟨fun h4=>?_,fun h8=>absurd h8 e8⟩
   have h4:4≤df op:=h4
   unfold cO
   rw[NF h1 h2,List.append_assoc]
   have hL:4≤df op+(if df op=4 then 1 else 0):=by split<;>omega
   generalize df op+(if df op=4 then 1 else 0)=L at *
   by_cases hl:df a.op<L
   ·rw[Em hl,List.append_assoc,List.append_assoc]
    show aj (bK [40]) _=false
    decide +kernel
   ·rw[je hl]
    exact(ih a ha _).1 (by omega)
  ·unfold tC
   rw[Iz h1]
   rcases h1 with rfl|rfl
   ·exact⟨fun h=>absurd h (by show ¬ 4≤df 19;decide),fun h=>absurd h (by show ¬ df 19=8;decide)⟩
   ·exact⟨fun _=>by show aj (gV 20) _=false;decide +kernel,fun h=>absurd h (by show ¬ df 20=8;decide)⟩
  ·rw[EY]
   exact⟨fun _=>by show aj (gV 21) _=false;decide +kernel,fun _=>by show aj (gV 21) _=false;decide +kernel⟩
  ·rw[JL h1]
   have:aj (gV op) (str [110,111,116])=false∧aj (gV op) (str [45])=false:=by
    obtain rfl|rfl|rfl:op=22∨op=23∨op=24:=by omega
    all_goals exact by decide +kernel
   exact⟨fun _=>this.1,fun _=>this.2⟩
end Go.Afx
namespace Go.Afx
open Go.RowKit
def nxt (L:Nat):Nat:=if L=4 then 4 else L+1
def Claim (d:Nat) (e:Ex) (L:Nat):Prop :=
 ∀ (W:aV) (f g i:Nat) (k:Int) (rest:List Key),At W i (eX L e.op (tokE d e)++rest)→(eX L e.op (tokE d e)).length≤f→(eX L e.op (tokE d e)).length<g→pY (nxt L) rest→0≤k→k+2*(dQ d e:Int)≤(if df e.op<L then 60 else 61) →
  Reach W (ik W f) g L (bV i k) e (bV (i+(eX L e.op (tokE d e)).length) k)
theorem aiz (L:Nat):nxt L≤L+1:=by unfold nxt;split<;>omega
theorem aiA (L:Nat):L≤nxt L:=by unfold nxt;split<;>omega
theorem fuel_lt {W:aV} {i:Nat} {a rest:List Key} (h:At W i (a++rest)):i+a.length<W.fuel:=by
 have:=h.len
 rw[List.length_append] at this
 unfold aV.fuel
 omega
theorem Claim.done {d:Nat} {e:Ex} {L:Nat} (hc:Claim d e L) {W:aV} {f g i:Nat} {k:Int} {rest:List Key} (hA:At W i (eX L e.op (tokE d e)++rest)) (hf:(eX L e.op (tokE d e)).length≤f) (hg:(eX L e.op (tokE d e)).length<g) (hn:pY L rest) (h0:0≤k) (hk:k+2*(dQ d e:Int)≤(if df e.op<L then 60 else 61)) :
  Kz W (ik W f) g L (bV i k)=(e,bV (i+(eX L e.op (tokE d e)).length) k) :=
 (hc W f g i k rest hA hf hg (hn.mono (aiA L)) h0 hk).done hA.skip hn
theorem acm {L:Nat} {op:Int} {t:List Key} (h:df op≠L):eX (L+1) op t=eX L op t:=by
 unfold eX
 by_cases h1:df op<L
 ·rw[if_pos h1,if_pos (by omega)]
 ·rw[if_neg h1,if_neg (by omega)]
theorem acn {d:Nat} {e:Ex} {L:Nat} (hb:aA d e=true) (hne:df e.op≠L) (h1:1≤L) (h8:L<8) (hc:Claim d e (L+1)):Claim d e L:=by
 intro W f g i k rest hA hf hg hn h0 hk
 have hu:=acm (t:=tokE d e) hne
 have hn':pY (L+1) rest:=hn.mono (aiz L)
 have hk':k+2*(dQ d e:Int)≤(if df e.op<L+1 then 60 else 61):=by
  by_cases h:df e.op<L
  ·rw[if_pos h] at hk;rw[if_pos (by omega)];exact hk
  ·rw[if_neg h] at hk;rw[if_neg (by omega)];exact hk
 have hl:=fuel_lt hA
 have h:=hc.done (g:=W.fuel) (by rw[hu];exact hA) (by rw[hu];exact hf) (by rw[hu];omega) hn' h0 hk'
 rw[hu] at h
 have hfirst:∀ t,(∀ k:Key,k=bK [40]→aj k t=false)→(¬ df e.op<L→aj (dK (tokE d e++rest)) t=false)→aj (dK (eX L e.op (tokE d e)++rest)) t=false:=by
  intro t ht1 ht2
  by_cases h:df e.op<L
  ·rw[Em h,List.append_assoc,List.append_assoc];exact ht1 _ rfl
  ·rw[je h];exact ht2 h
 refine Reach.up h8 h1 hA h (by omega) hA.skip hn (fun h3=>hfirst _ (fun k hk=>by subst hk;decide +kernel) (fun h=>(JM d e hb rest).1 (by omega))) (fun h7=>hfirst _ (fun k hk=>by subst hk;decide +kernel) (fun h=>(JM d e hb rest).2 ?_))
 have:df e.op≤8:=by unfold df;(repeat' split)<;>omega
 omega
theorem JO {d:Nat} {e:Ex} (hb:aA d e=true) {M:Nat} (hM:M≤8) (hc:Claim d e M):∀ n L,L+n=M→1≤L→(∀ N,L≤N→N<M→df e.op≠N)→Claim d e L:=by
  intro n
  induction n with
  | zero => intro L h _ _;obtain rfl:L=M:=by omega
            exact hc
  | succ n ih =>
    intro L h h1 hne
    exact acn hb (hne L (Nat.le_refl _) (by omega)) h1 (by omega) (ih (L+1) (by omega) (by omega) (fun N h2 h3=>hne N (by omega) h3))
def F9 (L:Nat) (k:Key):Bool:=([1,2,4,5,6].all fun M=>decide (M<L)||(EX M).all fun x=>!aj k x.1)&&!aj k (str [46])
theorem kR {L:Nat} {k:Key} {r:List Key} (h:F9 L k=true):pY L (k::r):=by
 unfold F9 at h
 simp only[Bool.and_eq_true,List.all_eq_true,Bool.or_eq_true,decide_eq_true_eq,Bool.not_eq_true'] at h
 refine⟨fun M hM x hx=>?_,h.2⟩
 have hm:M=1∨M=2∨M=4∨M=5∨M=6∨EX M=[]:=by
  unfold EX
  by_cases h1:M=1
  ·exact .inl h1
  by_cases h2:M=2
  ·exact .inr (.inl h2)
  by_cases h3:M=4
  ·exact .inr (.inr (.inl h3))
  by_cases h4:M=5
  ·exact .inr (.inr (.inr (.inl h4)))
  by_cases h5:M=6
  ·exact .inr (.inr (.inr (.inr (.inl h5))))
  ·rw[if_neg h1,if_neg h2,if_neg h3,if_neg h4,if_neg h5];simp
 have hm2:M∈[1,2,4,5,6]∨EX M=[]:=by
  rcases hm with rfl|rfl|rfl|rfl|rfl|h
  all_goals first|exact .inr h|exact .inl (by simp)
 rcases hm2 with hm2|hm2
 ·rcases h.1 M hm2 with h3|h3
  ·omega
  ·exact h3 x hx
 ·rw[hm2] at hx;cases hx
theorem aco (L:Nat):pY L []:=by
 refine⟨fun M _ x _=>?_,rfl⟩
 rfl
theorem IA {d:Nat} {e:Ex} (hc:Claim d e 1) {W:aV} {f i:Nat} {k:Int} {rest:List Key} (hA:At W i (tokE d e++rest)) (hf:(tokE d e).length<f) (hn:pY 1 rest) (h0:0≤k) (hk:k+2*(dQ d e:Int)≤61) :
  ik W f (bV i k)=(e,bV (i+(tokE d e).length) k):=by
 have hl:¬ df e.op<1:=by unfold df;(repeat' split)<;>omega
 obtain⟨f,rfl⟩:∃ m,f=m+1:=⟨f-1,by omega⟩
 have hl2:=fuel_lt hA
 have h:=hc.done (W:=W) (f:=f) (g:=W.fuel) (i:=i) (k:=k) (rest:=rest) (by rw[je hl];exact hA) (by rw[je hl];omega) (by rw[je hl];omega) hn h0 (by rw[if_neg hl];exact hk)
 rw[je hl] at h
 exact h
theorem Rn {d:Nat} {e:Ex} (hb:aA d e=true) (hlt:df e.op<8) (hc:Claim d e 1):Claim d e 8:=by
 intro W f g i k rest hA hf hg hn h0 hk
 rw[if_pos hlt] at hk
 rw[Em hlt] at hA hf ⊢
 rw[List.append_assoc,List.append_assoc] at hA
 simp only[List.length_append,List.length_cons,List.length_nil] at hf ⊢
 unfold Reach
 rw[if_neg (by decide)]
 have hA:At W i (bK [40]::(tokE d e++(bK [41]::rest))):=hA
 have hd:1≤dQ d e:=by cases d with
  | zero=>cases hb
  | succ d=>rw[dQ];omega
 have h1:=IA hc (k:=k+1) hA.next (f:=f) (by omega) (kR (by decide +kernel)) (by omega) (by omega)
 have h2:=hA.next.skip
 have hh:∀ t:ByteArray,aj (bK [40]) t=false→jO W (bV i k) t=false:=fun t ht=>by rw[mX hA];exact ht
 show eY W (ik W f) (bV i k)=_
 have k1:(W.look (bV i k).at_).kind=0:=jG hA
 unfold eY
 rw[k1,hh _ (by decide +kernel),hh _ (by decide +kernel),hh _ (by decide +kernel),hh _ (by decide +kernel),hh _ (by decide +kernel),hh _ (by decide +kernel),show jO W (bV i k) (str [40])=true from by rw[mX hA];show aj (bK [40]) _=true;decide +kernel]
 show EK W (ik W f) (bV i k)=_
 unfold EK
 simp only
 rw[gq hA (show aj (bK [40]) (str [40])=true by decide +kernel),enter_at h0 (by omega),h1]
 simp only
 rw[gq h2 (show aj (bK [41]) (str [41])=true by decide +kernel),o9 h0 (by omega)]
 congr 2
 omega
end Go.Afx
