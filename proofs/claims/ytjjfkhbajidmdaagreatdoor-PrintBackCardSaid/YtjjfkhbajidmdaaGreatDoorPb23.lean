/- Parts of this proof, one behind the other: ParP, ParA. -/
import Derived.Test.YtjjfkhbajidmdaaGreatDoorPb2
import Derived.Test.YtjjfkhbajidmdaaGreatDoorProg
import Derived.WalkSpells
import Derived.WalkLawsBesides
import Derived.Deep.QuietTactic
import Derived.BigQuiet
import Derived.BigRegion
import Derived.Outline
import Derived.Lib.Hide
set_option maxRecDepth 1000000
set_option maxHeartbeats 40000000
namespace Go.Afx
open Go.RowKit
structure Wd where
 kind:Int
 text:ByteArray
 n:Int
 at_:Int
structure aV where
 l:List Wd
 end_:Int
structure au where
 at_:Nat
 deep:Int
 over:Bool
 bad:Bool
def aV.look (W:aV) (i:Nat):Wd:=(W.l[i]?).getD ⟨4,str [],0,W.end_⟩
def Wd.says (x:Wd) (t:ByteArray):Bool:=(decide (x.kind=0)||decide (x.kind=3))&&decide (x.text=t)
def au.on (s:au):au:={ s with at_:=s.at_+1 }
def au.fail (s:au):au:={ s with bad:=true }
section
variable (W:aV)
def jO (s:au) (t:ByteArray):Bool:=(W.look s.at_).says t
def ay (t:ByteArray) (s:au):Bool×au:=if !s.bad&&jO W s t then (true,s.on) else (false,s)
def ak:List ByteArray→au→au
 | [],s=>s
 | t::r,s=>if (ay W t s).1 then ak r (ay W t s).2 else s.fail
def upP (s:au):au:={ s with deep:=wrap64 (s.deep+1) }
def aG (s:au):au:=if decide (60<(upP s).deep)&&!s.bad then { upP s with over:=true,bad:=true } else upP s
def dw (s:au):au:={ s with deep:=wrap64 (s.deep-1) }
def aS (s:au):ByteArray×au:=if s.bad||!decide ((W.look s.at_).kind=3)||tu (W.look s.at_).text then (str [],s.fail) else ((W.look s.at_).text,s.on)
def mP (s:au):Int×au:=if s.bad then (0,s) else if (W.look s.at_).kind=1 then ((W.look s.at_).n,s.on) else (0,s.fail)
def nil0:ByteArray:=str []
def ex0:Ex:=.mk 0 0 nil0 nil0 nil0 []
def cO (op:Int) (a b:Ex):Ex:=.mk op 0 nil0 nil0 nil0 [a,b]
def tC (op:Int) (a:Ex):Ex:=.mk op 0 nil0 nil0 nil0 [a]
def jH:List (ByteArray×Int)→au→Int×au
 | [],s=>(0,s)
 | (t,op)::r,s=>if (ay W t s).1 then (op,(ay W t s).2) else jH r s
def jq (l:List (ByteArray×Int)) (one:au→Ex×au):Nat→Ex→au→Ex×au
 | 0,e,s=>(e,s)
 | f+1,e,s=>if (jH W l s).1=0 then (e,(jH W l s).2) else jq l one f (cO (jH W l s).1 e (one (jH W l s).2).1) (one (jH W l s).2).2
def bF (s:au):(ByteArray×ByteArray)×au :=
 let a:=aS W s
 let b:=aS W (ak W [(str [105,110])] a.2)
 ((a.1,b.1),b.2)
section
variable (E:au→Ex×au)
def bG (s:au):Ex×au:=if (ay W (str [119,104,101,114,101]) s).1 then E (ay W (str [119,104,101,114,101]) s).2 else (.mk 3 1 nil0 nil0 nil0 [],s)
def dE (s:au):Int×au :=
 if (ay W (str [99,111,117,110,116]) s).1 then (21,(ay W (str [99,111,117,110,116]) s).2) else if (ay W (str [115,117,109]) s).1 then (22,(ay W (str [115,117,109]) s).2) else if (ay W (str [109,105,110]) s).1 then (23,(ay W (str [109,105,110]) s).2) else (24,ak W [(str [109,97,120])] s)
def tY (s:au):Ex×au :=
 let o:=dE W s
 let r:=bF W (aG (ak W [(str [40])] o.2))
 let a:=bG W E r.2
 if o.1=21 then (.mk 21 0 nil0 r.1.1 r.1.2 [a.1],dw (ak W [(str [41])] a.2))
 else
  let b:=E (ak W [(str [58])] a.2)
  (.mk o.1 0 nil0 r.1.1 r.1.2 [a.1,b.1],dw (ak W [(str [41])] b.2))
def EK (s:au):Ex×au :=
 let a:=E (aG (ak W [(str [40])] s))
 (a.1,dw (ak W [(str [41])] a.2))
def Ko (s:au):Ex×au :=
 let a:=aS W s
 if (ay W (str [46]) a.2).1 then
  let b:=aS W (ay W (str [46]) a.2).2
  (.mk 5 0 b.1 a.1 nil0 [],b.2)
 else (.mk 4 0 nil0 a.1 nil0 [],a.2)
def eY (s:au):Ex×au :=
 if s.bad then (ex0,s)
 else if (W.look s.at_).kind=1 then (.mk 1 (W.look s.at_).n nil0 nil0 nil0 [],s.on)
 else if (W.look s.at_).kind=2 then (.mk 2 0 (W.look s.at_).text nil0 nil0 [],s.on)
 else if jO W s (str [116,114,117,101]) then (.mk 3 1 nil0 nil0 nil0 [],s.on)
 else if jO W s (str [102,97,108,115,101]) then (.mk 3 0 nil0 nil0 nil0 [],s.on)
 else if jO W s (str [99,111,117,110,116])||jO W s (str [115,117,109])||jO W s (str [109,105,110])||jO W s (str [109,97,120]) then tY W E s
 else if jO W s (str [40]) then EK W E s
 else Ko W s
def dG:Nat→au→Ex×au
 | 0,s=>(ex0,s)
 | f+1,s=>if (ay W (str [45]) s).1 then (tC 20 (dG f (aG (ay W (str [45]) s).2)).1,dw (dG f (aG (ay W (str [45]) s).2)).2) else eY W E s
end
def aV.fuel:Nat:=W.l.length+1
def MK:List (ByteArray×Int):=[((str [111,114]),18)]
def FU:List (ByteArray×Int):=[((str [97,110,100]),17)]
def ji:List (ByteArray×Int):=[((str [61]),11),((str [33,61]),12),((str [60]),13),((str [60,61]),14),((str [62,61]),15),((str [62]),16)]
def FV:List (ByteArray×Int):=[((str [43]),6),((str [45]),7)]
def FW:List (ByteArray×Int):=[((str [42]),8),((str [47]),9),((str [37]),10)]
section
variable (E:au→Ex×au)
def ed (l:List (ByteArray×Int)) (one:au→Ex×au) (s:au):Ex×au:=jq W l one W.fuel (one s).1 (one s).2
def uG (s:au):Ex×au:=ed W FW (dG W E W.fuel) s
def sumP (s:au):Ex×au:=ed W FV (uG W E) s
def DK (s:au):Ex×au :=
 let a:=sumP W E s
 let o:=jH W ji a.2
 if o.1=0 then (a.1,o.2)
 else
  let b:=sumP W E o.2
  (cO o.1 a.1 b.1,b.2)
def notP:Nat→au→Ex×au
 | 0,s=>(ex0,s)
 | f+1,s=>if (ay W (str [110,111,116]) s).1 then (tC 19 (notP f (aG (ay W (str [110,111,116]) s).2)).1,dw (notP f (aG (ay W (str [110,111,116]) s).2)).2) else DK W E s
def Jb (s:au):Ex×au:=ed W FU (notP W E W.fuel) s
end
def ik:Nat→au→Ex×au
 | 0,s=>(ex0,s)
 | f+1,s=>ed W MK (Jb W (ik f)) s
def aZ (s:au):Ex×au:=ik W W.fuel s
end
end Go.Afx
namespace Go.Proofs.YtjjfkhbajidmdaaGreatDoor
open Go.RowKit Go.Afx
def iO (x:Wd):List Value:=[.int .i64 x.kind,.string x.text,.int .i64 x.n,.int .i64 x.at_]
def okW (x:Wd):Prop:=okI x.kind∧okS x.text∧okI x.n∧okI x.at_
def akv (r:List Value) (x:Wd):Prop:=r=iO x∧okW x
structure oM (F:Nat→Prop) (g:Nat) (W:aV) (at_:Nat) (w:World):Prop where
 ex:∃ A n c,af w g 145 #[.int .i64 at_,.int .i64 W.end_,.slice A n c]∧ai F w 4 akv A n c W.l
 le:at_≤W.l.length
 max:W.l.length≤1000000000000
 end_:okI W.end_
 off:¬ F g
theorem cells3 {w:World} {g:Nat} {T:TypeId} {v0 v1 v2:Value} (h:af w g T #[v0,v1,v2]):w.cell? ⟨g,0,none⟩=some v0∧w.cell? ⟨g,1,none⟩=some v1∧w.cell? ⟨g,2,none⟩=some v2∧g<w.heap.size:=by
 have h0:=h.cell 0;have h1:=h.cell 1;have h2:=h.cell 2
 simp at h0 h1 h2
 exact⟨h0,h1,h2,h.lt⟩
theorem cells4 {w:World} {g:Nat} {T:TypeId} {v0 v1 v2 v3:Value} (h:af w g T #[v0,v1,v2,v3]):w.cell? ⟨g,0,none⟩=some v0∧w.cell? ⟨g,1,none⟩=some v1∧w.cell? ⟨g,2,none⟩=some v2∧w.cell? ⟨g,3,none⟩=some v3∧g<w.heap.size:=by
 have h0:=h.cell 0;have h1:=h.cell 1;have h2:=h.cell 2;have h3:=h.cell 3
 simp at h0 h1 h2 h3
 exact⟨h0,h1,h2,h3,h.lt⟩
theorem oM.below {F:Nat→Prop} {g at_:Nat} {W:aV} {w w':World} (h:oM F g W at_ w) (hb:Below w.heap.size w w'):oM F g W at_ w':=by
 obtain⟨⟨A,n,c,hk,hl⟩,h1,h2,h3,h4⟩:=h
 exact⟨⟨A,n,c,hk.ag (hb.block _ hk.lt),hl.below hb⟩,h1,h2,h3,h4⟩
theorem oM.lt {F:Nat→Prop} {g at_:Nat} {W:aV} {w:World} (h:oM F g W at_ w):g<w.heap.size:=by
 obtain⟨⟨A,n,c,hk,hl⟩,_⟩:=h
 exact hk.lt
theorem ML {x:Int} (h:okI x):IntKind.i64.wrap x=x:=by
 obtain⟨h1,h2⟩:=h
 simp[IntKind.wrap,IntKind.signed,IntKind.bits]
 omega
theorem DL {W:aV} {i:Nat} (h:W.l.length≤i):W.look i=⟨4,⟨#[]⟩,0,W.end_⟩:=by unfold aV.look;rw[List.getElem?_eq_none h];rfl
theorem look_in {W:aV} {i:Nat} {x:Wd} (h:W.l[i]?=some x):W.look i=x:=by unfold aV.look;rw[h];rfl
theorem ani (a b:ByteArray):(a.toList==b.toList)=decide (a=b):=by
 rcases Classical.em (a=b) with h|h
 ·subst h;simp
 ·rw[decide_eq_false h,beq_eq_false_iff_ne]
  exact fun e=>h (TQ e)
theorem Jc:(Tryz.prog.info? 101).map (·.size)=some 4:=by kernel_rfl
theorem aa0 {fn:Func} {p:Tmp} {tmps:Array Value} {w:World} {g:Nat} {t:TypeId} {cs:Array Value} (h:fn.results=#[.cell p 101]) (hp:tmps.getD p undef=.pointer (some ⟨g,0,none⟩)) (hk:af w g t cs) (hz:cs.size=4):(results fn tmps).run Tryz.prog w=.ok (.agg cs) w :=
 results_cell_row h tmps w g t cs (0,0) _ hp hk Tryz.underlying101 rfl (by rw[hz];exact Jc)
theorem Qn (F:Nat→Prop) (g at_ n:Nat) (W:aV) (w:World) (h:oM F g W at_ w) (hn:n≤1000000000000) :
  Calls Tryz.prog 87 #[.pointer (some ⟨g,0,none⟩),.int .i64 n] w fun e w'=>e=.returned (.agg (iO (W.look (at_+n))).toArray)∧Below w.heap.size w w':=by
 obtain⟨⟨A,m,c,hk,hl⟩,h1,h2,h3,h4⟩:=h
 have hm:=hl.len
 obtain⟨c0,c1,c2,hg⟩:=cells3 hk
 have hw:IntKind.i64.wrap ((at_:Int)+(n:Int))=((at_+n:Nat):Int):=by rw[ML ⟨by omega,by omega⟩];omega
 have Hh:=ae h3
 have Hm:=ae hm
 rcases Nat.lt_or_ge (at_+n) m with hlt|hge
 ·obtain⟨b,o,r,x,rfl,hb,_,hx,hrl,⟨rfl,hok⟩,hc⟩:=hl.get hlt
  have d0:w.cell? ⟨b,o+(at_+n)*4,none⟩=some (.int .i64 x.kind):=by simpa using hc 0 _ rfl
  have d1:=hc 1 (.string x.text) rfl
  have d2:=hc 2 (.int .i64 x.n) rfl
  have d3:=hc 3 (.int .i64 x.at_) rfl
  have Hx:=ae (look_in hx)
  have hd:decide (((at_+n:Nat):Int)<(m:Int))=true:=by simp;omega
  clear hk hl hc hx hm h3 h2 h1
  go_enter Tryz.func87,Tryz.ntmps87
  go_wp2
  go_region
  all_goals go_wp2
  all_goals go_region
  all_goals go_wp2
  all_goals
   refine bodyPost_ret (v:=.agg (iO x).toArray) ?_ rfl ⟨?_,?_⟩
   ·simp[results,Tryz.results87,go_sem,iO]
   ·rw[Hx.out]
   ·exact((((Below.refl _ _).alloc (Nat.le_refl _) _).drew).drew)
 ·have hd:decide (((at_+n:Nat):Int)<(m:Int))=false:=by simp;omega
  have Hx:=ae (DL (W:=W) (i:=at_+n) (by omega))
  clear hk hl hm h3 h2 h1
  go_enter Tryz.func87,Tryz.ntmps87
  go_wp2
  go_region
  all_goals go_wp2
  all_goals
   refine bodyPost_ret (v:=.agg (iO ⟨4,⟨#[]⟩,0,W.end_⟩).toArray) ?_ rfl ⟨?_,?_⟩
   ·simp[results,Tryz.results87,go_sem,iO]
   ·rw[Hx.out]
   ·exact((((Below.refl _ _).alloc (Nat.le_refl _) _).drew))
theorem uH (F:Nat→Prop) (g at_:Nat) (W:aV) (w:World) (h:oM F g W at_ w) :
  Calls Tryz.prog 43 #[.pointer (some ⟨g,0,none⟩)] w fun e w'=>e=.returned (.agg (iO (W.look at_)).toArray)∧Below w.heap.size w w':=by
 have hb:=(Below.refl w.heap.size w).alloc (Nat.le_refl _) (.cells #[.int .i64 0,.string ⟨#[]⟩,.int .i64 0,.int .i64 0] 101)
 have hc:=Qn F g at_ 0 W _ (h.below hb) (by omega)
 rw[Nat.add_zero] at hc
 generalize W.look at_=x at *
 have Hc:=ae hc
 have Hb:=ae hb
 have Hk:=ae (af.laid w 101 #[.int .i64 0,.string ⟨#[]⟩,.int .i64 0,.int .i64 0])
 clear h hb hc
 go_enter Tryz.func43,Tryz.ntmps43
 go_wp2_with (go_at_call 87;refine Hc.out.mono ?_)
 rintro e w2 ⟨rfl,hb2⟩
 have hk2:=Hk.out.ag (hb2.block _ (by simp))
 obtain⟨k0,k1,k2,k3,hlt⟩:=cells4 hk2
 have hfz:=hk2.frozen
 have Hb2:=ae (Hb.out.trans (hb2.mono (Nat.le_of_lt (by simp))))
 clear hb2
 unfold iO
 go_wp2
 refine bodyPost_ret (v:=.agg (iO x).toArray) (aa0 Tryz.results43 rfl ((((hk2.stored 0 _).stored 1 _).stored 2 _).stored 3 _) rfl) rfl ⟨rfl,?_⟩
 exact(((Hb2.out.setCell (p:=⟨_,0,none⟩) (Nat.le_refl _) _).setCell (p:=⟨_,1,none⟩) (Nat.le_refl _) _).setCell (p:=⟨_,2,none⟩) (Nat.le_refl _) _).setCell (p:=⟨_,3,none⟩) (Nat.le_refl _) _
theorem Qo (x:Wd) (t:ByteArray) (w:World) :
  Calls Tryz.prog 93 #[.agg (iO x).toArray,.string t] w fun e w'=>e=.returned (.bool (x.says t))∧Below w.heap.size w w':=by
 obtain⟨k,s,n,a⟩:=x
 unfold iO Wd.says
 simp only[← ani]
 go_enter Tryz.func93,Tryz.ntmps93
 go_wp2
 all_goals
  go_ret
  refine⟨aI ?_,(Below.refl _ _).alloc (Nat.le_refl _) _⟩
  simp_all
def rX (w:World) (A:Option Addr) (n c:Nat) (ts:List ByteArray):Prop:=az w 1 A n c (ts.map fun s=>[.string s])
theorem rX.get {w:World} {A:Option Addr} {n c:Nat} {ts:List ByteArray} (h:rX w A n c ts) {k:Nat} (hk:k<n):∃ b o x,A=some ⟨b,o,none⟩∧b<w.heap.size∧ts[k]?=some x∧w.cell? ⟨b,o+k,none⟩=some (.string x):=by
 have hl:=az.len h
 simp at hl
 have hx:ts[k]?=some (ts[k]'(by omega)):=List.getElem?_eq_getElem _
 obtain⟨b,o,hA,hb,hc⟩:=az.one h (k:=k) (u:=.string (ts[k]'(by omega))) (by rw[List.getElem?_map,hx];rfl)
 exact⟨b,o,_,hA,hb,hx,hc⟩
theorem rX.lit {w:World} {g:Nat} (T:TypeId) (ts:List ByteArray) (n:Nat) (hg:g=w.heap.size) (hn:ts.length=n) (hm:n≤1000):rX (w.alloc (.cells (ts.map Value.string).toArray T)) (some ⟨g,0,none⟩) n n ts:=by
 refine az.nG _ _ n hg ?_ (by simp) (by simpa using hn) (by unfold maxLen;omega)
 show ts.map Value.string=_
 clear hn
 induction ts with
 | nil=>rfl
 | cons s ts ih=>rw[List.map_cons,List.map_cons,List.flatten_cons,← ih];rfl
theorem take_any {α:Type} {l:List α} {k:Nat} {x:α} {p:α→Bool} (h:l[k]?=some x) (h0:(l.take k).any p=false) (hp:p x=false):(l.take (k+1)).any p=false:=by
 obtain⟨hk,rfl⟩:=List.getElem?_eq_some_iff.1 h
 rw[List.take_succ_eq_append_getElem hk,List.any_append,h0]
 simp[hp]
theorem ahn {α:Type} {l:List α} {k:Nat} {x:α} {p:α→Bool} (h:l[k]?=some x) (hp:p x=true):l.any p=true:=List.any_eq_true.2 ⟨x,List.mem_of_getElem? h,hp⟩
theorem TZ (x:Wd) (A:Option Addr) (n c:Nat) (ts:List ByteArray) (w:World) (h:rX w A n c ts) :
  Calls Tryz.prog 122 #[.slice A n c,.func (.func 93) #[.agg (iO x).toArray] #[]] w fun e w'=>(∃ i:Int,e=.returned (.int .i64 i)∧decide (0≤i)=ts.any x.says)∧Below w.heap.size w w':=by
 have hn:=az.gu h
 have hl:=az.len h
 simp at hl
 have Hl:=ae hl
 have Xi:=ae (fun t W=>Qo x t W)
 generalize hp:x.says=p at *
 clear hp hl
 go_enter Tryz.func122,Tryz.ntmps122
 go_wp2
 go_loopw [8] (fun i wr=>∃ k:Nat,k≤n∧i=.int .i64 k∧Hid ((ts.take k).any p=false)∧Below w.heap.size w wr) (fun i _=>n-(intOf i).toNat)
 case atStart=>exact⟨0,Nat.zero_le _,rfl,ae (by simp),Below.refl _ _⟩
 case round =>
  obtain⟨k,hk,rfl,HS,hb⟩:=hrel
  rcases Nat.lt_or_ge k n with hlt|hge
  ·obtain⟨b,o,t,rfl,hbl,ht,hc⟩:=h.get hlt
   have hcx:wr.cell? ⟨b,o+k,none⟩=some (.string t):=(hb.cell (p:=⟨b,o+k,none⟩) hbl).trans hc
   have Ht:=ae ht
   have aj6:=Nat.lt_of_lt_of_le hbl hb.size
   have Hb:=ae hb
   have hc1:=Xi.out t wr
   cases hv:p t with
   | true =>
    rw[hv] at hc1
    have Hc1:=ae hc1
    have Hv:=ae hv
    clear hc hc1 hv ht hb
    go_wp2_with (go_at_call 93;refine Hc1.out.mono ?_;rintro e w3 ⟨rfl,hb3⟩)
    have Hb3:=ae (Hb.out.trans (hb3.mono Hb.out.size))
    clear hb3
    go_wp2
    go_ret
    exact⟨⟨_,rfl,by rw[ahn Ht.out Hv.out];simp⟩,Hb3.out⟩
   | false =>
    rw[hv] at hc1
    have Hc1:=ae hc1
    have Hv:=ae hv
    clear hc hc1 hv ht hb
    go_wp2_with (go_at_call 93;refine Hc1.out.mono ?_;rintro e w3 ⟨rfl,hb3⟩)
    have Hb3:=ae (Hb.out.trans (hb3.mono Hb.out.size))
    clear hb3
    go_wp2
    go_roundw
    case rel=>exact⟨k+1,by omega,by simp,ae (take_any Ht.out HS.out Hv.out),Hb3.out⟩
    case measure=>simp[intOf];omega
  ·have hkn:k=n:=by omega
   subst hkn
   have Hb:=ae hb
   clear hb
   go_wp2
   go_ret
   refine⟨⟨_,rfl,?_⟩,Hb.out⟩
   rw[← List.take_length (l:=ts),Hl.out,HS.out]
   rfl
theorem MM (x:Wd) (A:Option Addr) (n c:Nat) (ts:List ByteArray) (w:World) (h:rX w A n c ts) :
  Calls Tryz.prog 92 #[.slice A n c,.func (.func 93) #[.agg (iO x).toArray] #[]] w fun e w'=>e=.returned (.bool (ts.any x.says))∧Below w.heap.size w w':=by
 have Hc:=ae (TZ x A n c ts w h)
 clear h
 go_enter Tryz.func92,Tryz.ntmps92
 go_wp2_with (go_at_call 122;refine Hc.out.mono ?_;rintro e w3 ⟨⟨i,rfl,hi⟩,hb3⟩)
 go_ret
 exact⟨aI (by rw[← hi]),hb3⟩
theorem aho (F:Nat→Prop) (g at_:Nat) (W:aV) (A:Option Addr) (n c:Nat) (ts:List ByteArray) (w:World) (h:oM F g W at_ w) (ht:rX w A n c ts) :
  Calls Tryz.prog 47 #[.pointer (some ⟨g,0,none⟩),.slice A n c] w fun e w'=>e=.returned (.bool (ts.any (W.look at_).says))∧Below w.heap.size w w':=by
 have Hw:=ae (uH F g at_ W w h)
 have Hc:=ae (fun x W (hW:Below w.heap.size w W)=>MM x A n c ts W (az.below ht hW))
 clear h ht
 go_enter Tryz.func47,Tryz.ntmps47
 go_wp2_with (go_at_call 43;refine Hw.out.mono ?_;rintro e w3 ⟨rfl,hb3⟩)
 have Hc2:=ae (Hc.out (W.look at_) _ hb3)
 have Hb3:=ae hb3
 clear hb3
 refine Hc2.out.mono ?_
 rintro e w4 ⟨rfl,hb4⟩
 have Hb4:=ae (Hb3.out.trans (hb4.mono Hb3.out.size))
 clear hb4
 go_wp2
 go_ret
 exact⟨rfl,Hb4.out⟩
def takeB (W:aV) (at_:Nat) (ts:List ByteArray):Bool:=(List.range ts.length).all fun i=>(W.look (at_+i)).says (ts.getD i ⟨#[]⟩)
theorem Io {W:aV} {i:Nat} {t:ByteArray} (h:(W.look i).says t=true):i<W.l.length:=by
 rcases Nat.lt_or_ge i W.l.length with h1|h1
 ·exact h1
 ·rw[DL h1] at h
  simp[Wd.says] at h
theorem oM.moved {F:Nat→Prop} {g at_ at2:Nat} {W:aV} {w:World} (h:oM F g W at_ w) (hk:at2≤W.l.length):oM F g W at2 (w.setCell ⟨g,0,none⟩ (.int .i64 at2)):=by
 obtain⟨⟨A,n,c,hb,hl⟩,h1,h2,h3,h4⟩:=h
 refine⟨⟨A,n,c,hb.stored 0 _,hl.kept (Kept.aN ((But.refl (fun k=>k=g) w).setCell (p:=⟨g,0,none⟩) (.inl rfl) _) fun k hf e=>h4 (e▸hf))⟩,hk,h2,h3,h4⟩
theorem oM.turn {F:Nat→Prop} {g at_ at2:Nat} {W:aV} {w w':World} (h:oM F g W at_ w) (hb:But (fun k=>k=g) w w') (hle:at2≤W.l.length) (hc:∀ cs,af w g 145 cs→af w' g 145 (cs.setIfInBounds 0 (.int .i64 at2))):oM F g W at2 w':=by
 obtain⟨⟨A,n,c,hk,hl⟩,h1,h2,h3,h4⟩:=h
 exact⟨⟨A,n,c,hc _ hk,hl.kept (Kept.aN hb fun k hf e=>h4 (e▸hf))⟩,hle,h2,h3,h4⟩
theorem KP (F:Nat→Prop) (g at_:Nat) (W:aV) (A:Option Addr) (c:Nat) (t:ByteArray) (w:World) (h:oM F g W at_ w) (ht:rX w A 1 c [t]) :
  Calls Tryz.prog 88 #[.pointer (some ⟨g,0,none⟩),.slice A 1 c] w fun e w'=>e=.returned (.bool ((W.look at_).says t))∧oM F g W (if (W.look at_).says t then at_+1 else at_) w'∧But (fun k=>k=g) w w':=by
 obtain⟨b,o,t',rfl,hbl,e,hc⟩:=ht.get (k:=0) (by omega)
 simp at e
 subst e
 rw[Nat.add_zero] at hc
 have hlk:=Qn F g at_ 0 W w h (by omega)
 rw[Nat.add_zero] at hlk
 have hin:(W.look at_).says t=true→at_<W.l.length:=Io
 generalize hx:W.look at_=x at *
 have Hin:=ae hin
 have Hlk:=ae hlk
 have Xi:=ae (fun W=>Qo x t W)
 have Hh:=ae h
 clear hlk hin ht h hx
 cases hv:x.says t with
 | true =>
  have Hv:=ae hv
  rw[hv] at Xi
  clear hv
  go_enter Tryz.func88,Tryz.ntmps88
  go_wp2
  refine wp_loop_rounds 2 ?_
  rw[rounds_succ]
  go_wp2_with (first|(go_at_call 87;refine Hlk.out.mono ?_;rintro e w2 ⟨rfl,hb2⟩)|(go_at_call 93;refine(Xi.out w2).mono ?_;rintro e w3 ⟨rfl,hb3⟩))
  have hh:=Hh.out.below hb2
  have hh:=hh.below hb3
  have Hb3:=ae (hb2.trans (hb3.mono hb2.size))
  obtain⟨⟨A,n,c2,hk,hl⟩,h1,h2,h3,h4⟩:=id hh
  obtain⟨c0,c1,c3,hg⟩:=cells3 hk
  have hfz:=hk.frozen
  have hlt:=Hin.out Hv.out
  have hw:IntKind.i64.wrap ((at_:Int)+1)=((at_+1:Nat):Int):=by rw[ML ⟨by omega,by omega⟩];omega
  have Hm:=ae (hh.moved (at2:=at_+1) hlt)
  clear hh hk hl h1 h2 h3 hb2 hb3 hlt
  rw[rounds_succ]
  go_wp2
  go_ret
  exact⟨rfl,by simpa using Hm.out,But.setCell (S:=fun k=>k=g) (But.of_below Hb3.out) (p:=⟨g,0,none⟩) (.inl rfl) _⟩
 | false =>
  rw[hv] at Xi
  clear hv
  go_enter Tryz.func88,Tryz.ntmps88
  go_wp2
  refine wp_loop_rounds 1 ?_
  rw[rounds_succ]
  go_wp2_with (first|(go_at_call 87;refine Hlk.out.mono ?_;rintro e w2 ⟨rfl,hb2⟩)|(go_at_call 93;refine(Xi.out w2).mono ?_;rintro e w3 ⟨rfl,hb3⟩))
  have Hb3:=ae (hb2.trans (hb3.mono hb2.size))
  have Hh3:=ae ((Hh.out.below hb2).below hb3)
  clear hb2 hb3
  go_wp2
  go_ret
  exact⟨rfl,Hh3.out,But.of_below Hb3.out⟩
theorem Qp (F:Nat→Prop) (g at_:Nat) (W:aV) (w:World) (h:oM F g W at_ w) :
  Calls Tryz.prog 42 #[.pointer (some ⟨g,0,none⟩)] w fun e w'=>e=.returned (.int .i64 ((W.l.length-at_:Nat):Int))∧Below w.heap.size w w':=by
 obtain⟨⟨A,m,c,hk,hl⟩,h1,h2,h3,h4⟩:=h
 have hm:=hl.len
 obtain⟨c0,c1,c2,hg⟩:=cells3 hk
 have hw:IntKind.i64.wrap ((m:Int)-(at_:Int))=((W.l.length-at_:Nat):Int):=by rw[ML ⟨by omega,by omega⟩];omega
 have Hw:=ae hw
 clear hk hl h3
 go_enter Tryz.func42,Tryz.ntmps42
 go_wp2
 go_region
 all_goals go_wp2
 all_goals
  go_ret
  refine⟨Am ?_,(Below.refl _ _).drew⟩
  omega
theorem KQ {fn:Func} {p u:Tmp} {tmps:Array Value} {w:World} {g:Nat} {t:TypeId} {cs:Array Value} {v:Value} (h:fn.results=#[.cell p 101,.tmp u]) (hp:tmps.getD p undef=.pointer (some ⟨g,0,none⟩)) (hk:af w g t cs) (hz:cs.size=4) (hv:tmps.getD u undef=v):(results fn tmps).run Tryz.prog w=.ok (.tuple #[.agg cs,v]) w:=by
 rw[results_cell_tmp h,hp,hv]
 have h2:=run_loadVar_row (P:=Tryz.prog) w g t 101 cs (0,0) _ hk Tryz.underlying101 rfl (by rw[hz];exact Jc)
 simp[asAddr,h2]
theorem Jd (F:Nat→Prop) (g at_:Nat) (k:Int) (W:aV) (w:World) (h:oM F g W at_ w) (hk4:k≠4) :
  Calls Tryz.prog 91 #[.pointer (some ⟨g,0,none⟩),.int .i64 k] w fun e w'=>e=.returned (.tuple #[.agg (if (W.look at_).kind=k then iO (W.look at_) else [.int .i64 0,.string ⟨#[]⟩,.int .i64 0,.int .i64 0]).toArray,.bool (decide ((W.look at_).kind=k))]) ∧
   oM F g W (if (W.look at_).kind=k then at_+1 else at_) w'∧But (fun k=>k=g) w w':=by
 have hb:=(Below.refl w.heap.size w).alloc (Nat.le_refl _) (.cells #[.int .i64 0,.string ⟨#[]⟩,.int .i64 0,.int .i64 0] 101)
 have Hk:=ae (af.laid w 101 #[.int .i64 0,.string ⟨#[]⟩,.int .i64 0,.int .i64 0])
 have hg:=h.lt
 have Hh0:=ae h
 have h:=h.below hb
 have MN:=ae (uH F g at_ W _ h)
 have Hlf:=ae (fun W2 (hW:oM F g W at_ W2)=>Qp F g at_ W W2 hW)
 have Hb:=ae hb
 have hin:(W.look at_).kind=k→at_<W.l.length:=fun e=>by
  rcases Nat.lt_or_ge at_ W.l.length with h1|h1
  ·exact h1
  ·rw[DL h1] at e
   exact absurd e.symm hk4
 generalize hx:W.look at_=x at *
 have Hh:=ae h
 obtain⟨xk,xs,xn,xa⟩:=x
 have hin:xk=k→at_<W.l.length:=hin
 show Calls _ _ _ _ fun e w'=>e=.returned (.tuple #[.agg (if xk=k then iO ⟨xk,xs,xn,xa⟩ else [.int .i64 0,.string ⟨#[]⟩,.int .i64 0,.int .i64 0]).toArray,.bool (decide (xk=k))])∧oM F g W (if xk=k then at_+1 else at_) w'∧But (fun k=>k=g) w w'
 unfold iO at *
 have ahq:=Hlf.out
 generalize hlen:W.l.length-at_=left at ahq
 have Hlen:=ae hlen
 have Hin:=ae hin
 clear hin hx h hb hlen Hlf
 rcases Classical.em (xk=k) with he|he
 ·simp only[if_pos he,decide_eq_true he]
  have hlt:=Hin.out he
  have q1:((left:Int)==0)=false:=by have:=Hlen.out;simp;omega
  have q2:(xk==k)=true:=by simpa using he
  have q3:(xk !=k)=false:=by simpa using he
  clear he
  go_enter Tryz.func91,Tryz.ntmps91
  go_wp2_with (go_at_call 43;refine MN.out.mono ?_;rintro e w2 ⟨rfl,hb2⟩)
  have hh2:=Hh.out.below hb2
  have hb3:=(Below.refl w2.heap.size w2).alloc (Nat.le_refl _) (.cells #[.int .i64 xk,.string xs,.int .i64 xn,.int .i64 xa] 101)
  have hh3:=hh2.below hb3
  refine(ahq _ hh3).mono ?_
  rintro e w4 ⟨rfl,hb4⟩
  have hz2:=hb2.size
  simp only[World.alloc,Array.size_push] at hz2
  have tH:Below w2.heap.size w2 w4:=hb3.trans (hb4.mono (by simp))
  have Hh4:=ae (hh3.below hb4)
  have hk4:=(Hk.out.ag (hb2.block _ (by simp))).ag (tH.block _ (by omega))
  have hl4:=(af.laid w2 101 #[.int .i64 xk,.string xs,.int .i64 xn,.int .i64 xa]).ag (hb4.block _ (by simp))
  obtain⟨k0,k1,k2,k3,klt⟩:=cells4 hk4
  obtain⟨l0,l1,l2,l3,llt⟩:=cells4 hl4
  have hfz:=hk4.frozen
  have tK:=ae hk4
  have Hb4:=ae ((Hb.out.trans (hb2.mono (by simp))).trans (tH.mono (by omega)))
  obtain⟨⟨A,n,c2,hk,hl⟩,h1,h2,h3,h4⟩:=id Hh4.out
  obtain⟨c0,c1,c3,hg3⟩:=cells3 hk
  have hfg:=hk.frozen
  have n1:w2.heap.size≠g:=by omega
  have n2:g≠w2.heap.size:=by omega
  have n3:w.heap.size≠g:=by omega
  have n4:g≠w.heap.size:=by omega
  have n5:w.heap.size≠w2.heap.size:=by omega
  have n6:w2.heap.size≠w.heap.size:=by omega
  have hlt2:at_+1≤W.l.length:=hlt
  have anl:=ae hlt2
  have hw:IntKind.i64.wrap ((at_:Int)+1)=((at_+1:Nat):Int):=by rw[ML ⟨by omega,by omega⟩];omega
  clear hh2 hb3 hh3 hk4 hk hl h1 h2 h3 hb2 hlt hlt2 tH hb4 hl4 hz2
  go_wp2
  refine bodyPost_ret (v:=.tuple #[.agg #[.int .i64 xk,.string xs,.int .i64 xn,.int .i64 xa],.bool true]) (KQ Tryz.results91 rfl ((((tK.out.elsewhere (p:=⟨g,0,none⟩) n3 _).stored 0 _).stored 1 _).stored 2 _ |>.stored 3 _) rfl rfl) rfl ⟨rfl,?_,?_⟩
  ·exact Hh0.out.turn (((((But.setCell (S:=fun k=>k=g) (But.of_below Hb4.out) (p:=⟨g,0,none⟩) (.inl rfl) _).setCell (p:=⟨_,0,none⟩) (.inr (Nat.le_refl _)) _).setCell (p:=⟨_,1,none⟩) (.inr (Nat.le_refl _)) _).setCell (p:=⟨_,2,none⟩) (.inr (Nat.le_refl _)) _).setCell (p:=⟨_,3,none⟩) (.inr (Nat.le_refl _)) _) anl.out (fun cs hcs=>by
    have h1:=((((hcs.ag (Hb4.out.block _ hg)).stored 0 (.int .i64 ((at_+1:Nat):Int))).elsewhere (p:=⟨w.heap.size,0,none⟩) n4 (.int .i64 xk)).elsewhere (p:=⟨w.heap.size,1,none⟩) n4 (.string xs)).elsewhere (p:=⟨w.heap.size,2,none⟩) n4 (.int .i64 xn)
    exact h1.elsewhere (p:=⟨w.heap.size,3,none⟩) n4 (.int .i64 xa))
  ·exact((((But.setCell (S:=fun k=>k=g) (But.of_below Hb4.out) (p:=⟨g,0,none⟩) (.inl rfl) _).setCell (p:=⟨_,0,none⟩) (.inr (Nat.le_refl _)) _).setCell (p:=⟨_,1,none⟩) (.inr (Nat.le_refl _)) _).setCell (p:=⟨_,2,none⟩) (.inr (Nat.le_refl _)) _).setCell (p:=⟨_,3,none⟩) (.inr (Nat.le_refl _)) _
 ·simp only[if_neg he,decide_eq_false he]
  have q2:(xk==k)=false:=by simpa using he
  have q3:(xk !=k)=true:=by simpa using he
  have JZ:=ae he
  clear he
  go_enter Tryz.func91,Tryz.ntmps91
  go_wp2_with (go_at_call 43;refine MN.out.mono ?_;rintro e w2 ⟨rfl,hb2⟩)
  have hh2:=Hh.out.below hb2
  have hb3:=(Below.refl w2.heap.size w2).alloc (Nat.le_refl _) (.cells #[.int .i64 xk,.string xs,.int .i64 xn,.int .i64 xa] 101)
  have hh3:=hh2.below hb3
  refine(ahq _ hh3).mono ?_
  rintro e w4 ⟨rfl,hb4⟩
  have hz2:=hb2.size
  simp only[World.alloc,Array.size_push] at hz2
  have tH:Below w2.heap.size w2 w4:=hb3.trans (hb4.mono (by simp))
  have Hh4:=ae (hh3.below hb4)
  have hk4:=(Hk.out.ag (hb2.block _ (by simp))).ag (tH.block _ (by omega))
  have hl4:=(af.laid w2 101 #[.int .i64 xk,.string xs,.int .i64 xn,.int .i64 xa]).ag (hb4.block _ (by simp))
  obtain⟨k0,k1,k2,k3,klt⟩:=cells4 hk4
  obtain⟨l0,l1,l2,l3,llt⟩:=cells4 hl4
  have hfz:=hk4.frozen
  have tK:=ae hk4
  have Hb4:=ae ((Hb.out.trans (hb2.mono (by simp))).trans (tH.mono (by omega)))
  obtain⟨⟨A,n,c2,hk,hl⟩,h1,h2,h3,h4⟩:=id Hh4.out
  obtain⟨c0,c1,c3,hg3⟩:=cells3 hk
  have hfg:=hk.frozen
  have n1:w2.heap.size≠g:=by omega
  have n2:g≠w2.heap.size:=by omega
  have n3:w.heap.size≠g:=by omega
  have n4:g≠w.heap.size:=by omega
  have n5:w.heap.size≠w2.heap.size:=by omega
  have n6:w2.heap.size≠w.heap.size:=by omega
  clear hh2 hb3 hh3 hk4 hk hl h1 h2 h3 hb2 tH hb4 hl4 hz2
  go_wp2
  all_goals
   have hz:Below w.heap.size w ((((w4.setCell ⟨w.heap.size,0,none⟩ (.int .i64 0)).setCell ⟨w.heap.size,1,none⟩ (.string ⟨#[]⟩)).setCell ⟨w.heap.size,2,none⟩ (.int .i64 0)).setCell ⟨w.heap.size,3,none⟩ (.int .i64 0)):=(((Hb4.out.setCell (p:=⟨_,0,none⟩) (Nat.le_refl _) _).setCell (p:=⟨_,1,none⟩) (Nat.le_refl _) _).setCell (p:=⟨_,2,none⟩) (Nat.le_refl _) _).setCell (p:=⟨_,3,none⟩) (Nat.le_refl _) _
   refine bodyPost_ret (v:=.tuple #[.agg #[.int .i64 0,.string ⟨#[]⟩,.int .i64 0,.int .i64 0],.bool false]) (KQ Tryz.results91 rfl (((tK.out.stored 0 _).stored 1 _).stored 2 _ |>.stored 3 _) rfl rfl) rfl ⟨rfl,Hh0.out.below hz,But.of_below hz⟩
end Go.Proofs.YtjjfkhbajidmdaaGreatDoor
