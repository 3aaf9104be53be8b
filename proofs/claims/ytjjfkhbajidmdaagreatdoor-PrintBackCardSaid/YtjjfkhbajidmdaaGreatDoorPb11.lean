/- Parts of this proof, one behind the other: RefT8, RefM, RefN, WkN, WkA, WkD, WkE. -/
import Derived.Test.YtjjfkhbajidmdaaGreatDoorPb8
import Derived.Test.YtjjfkhbajidmdaaGreatDoorPb10
import Derived.Deep.DeepCutAuto
import Derived.Deep.CutBlock
import Derived.Outline
import Derived.Test.YtjjfkhbajidmdaaGreatDoorPb7
import Derived.Test.YtjjfkhbajidmdaaGreatDoorPb1
import Derived.Deep.RegionHeld3
import Derived.Test.YtjjfkhbajidmdaaGreatDoorPb3
set_option maxRecDepth 1000000
set_option maxHeartbeats 40000000
namespace Go.Proofs.YtjjfkhbajidmdaaGreatDoor
open Go.RowKit Go.Afx
theorem Wy (F:Nat→Prop) (A A':Option Addr) (n c n' c':Nat) (xs:List Lf) (ys:List Kn) (w:World) (h1:ai F w 6 (yU F w) A n c xs) (h2:ai F w 8 (yV F w) A' n' c' ys) (hF:∀ k,F k→k<w.heap.size) :
  Calls Tryz.prog 10 #[.slice A n c,.slice A' n' c'] w (agV F w):=by
 have H0:=ae (pJ.start F w)
 have H1:=ae h1
 have H2:=ae h2
 clear h1 h2
 go_enter Tryz.func10,Tryz.ntmps10
 go_upto_block 0 with (fail)
 go_cut [] (fun wr=>YQ F w wr)
 case first =>
  refine Code.wp_mono fM (phE F A n c xs w _ H1.out hF H0.out ?_)
  intro y6 y7 y8 y9 y10 y11 y12 y24 y25 y26 y27 y28 y29 y30 y31 y32 y33 y34 y35 y36 y37 y38 y39 y40 Vd Ve Vf Vg y45 y46 y47 y48 y49 y50 y51 y52 y53 y54 y55 y56 y57 y58 y59 y60 y61 y62 y63 y64 y65 y66 y67 y68 y69 y70 y71 y72 y73 y74 y75 y76 y77 y78 y79 y80 y81 y82 y83 y84 y85 y86 y87 y88 y89 y90 y91 y92 y93 y94 y95 y96 y97 y98 y99 YH y101 y102 YI y104 YJ YK YL YM YN YO YP y112 y113 y114 y115 ajo ajp W hr
  have Hr:=ae hr
  clear hr
  go_step
  go_meet
  exact Hr.out
 case rest =>
  obtain⟨hue,es,A0,c0,A1,c1,A2,c2,hS⟩:=hcut
  have HS:=ae hS
  clear hS H0 H1
  go_upto_block 4 with (fail)
  go_cut [] (fun wr=>af0 F w wr)
  case first =>
   refine Code.wp_mono fM (phS F A' n' c' ys w _ hue es A0 c0 A1 c1 A2 c2 H2.out hF HS.out ?_)
   intro y13 y14 y15 Vk Vl y18 y19 y20 y21 y22 ajs ajt aju ajv ajw ajx ajy Y3 Y4 Y5 Y6 Y7 Y8 Y9 Za Zb Zc Zd Ze Zf Zg Zh Zi Zj Zk Zl Zm Zn Zo Zp Zq Zr y150 y151 y152 y153 Zt Zu Zv y157 y158 y159 y160 Zw Zx Zy Zz ZA ZB y167 y168 ZC ZE ZF ZG ZH ZI ZJ ZK ZL ZM ZN ZO ZP ZQ ZR ZT ZU ZV ZW ZX ZY NW NY NZ N7 N8 N9 Oa Ob Oc Oe Og Oh Oi Oj Ol Om Oo Oq Ot Ou Ov Ox Oy Oz OA OB OC OD OE OG OH OI OJ OL OM OO OQ OT OU OV OW OX OY OZ O0 O1 O3 O4 O5 O6 O7 O8 O9 Pg Ph Pj Pm Pn Po Pq Pv Px Py Pz PD PG PH PI PK PL PM PN PO PQ PR PT PU ajz ajA ajB ajC ajD ajE ajF ajG ajH ajI ajJ ajK ajL ajM ajN ajO ajP ajQ ajR ajS ajT ajU ajV ajW W hr
   have Hr:=ae hr
   clear hr
   go_step
   go_meet
   exact Hr.out
  case rest =>
   clear HS H2
   obtain⟨hue,es,ss,A0,c0,A1,c1,A2,c2,A3,c3,A4,c4,A5,c5,hW⟩:=hcut
   generalize wc=w1 at *
   have HW:=ae hW
   clear hW
   obtain⟨q0,q1,q2,q3,q4,q5,ql⟩:=dP HW.out.box
   have hend:=HW.out.end_ (Ih w1 w.heap.size (.slice A0 es.length c0) (.slice A1 es.length c1) (.slice A2 es.length c2) (.slice A3 ss.length c3) (.slice A4 ss.length c4) (.slice A5 ss.length c5))
   have IG:=ae hend
   obtain⟨r0,r1,r2,r3,r4,r5,rl⟩:=dP HW.out.res
   have rf:=HW.out.res.frozen
   clear hend
   go_wp2
   refine bodyPost_ret (v:=.agg #[.slice A0 es.length c0,.slice A1 es.length c1,.slice A2 es.length c2,.slice A3 ss.length c3,.slice A4 ss.length c4,.slice A5 ss.length c5]) (by simp[results,Tryz.results10,go_sem,r0,r1,r2,r3,r4,r5]) rfl ⟨_,es,ss,rfl,IG.out.1,IG.out.2⟩
end Go.Proofs.YtjjfkhbajidmdaaGreatDoor
namespace Go.Afx
open Go.RowKit
def G6 (l:List (Int×Int)):Int:=l.foldl (fun m t=>max m t.2) 0
theorem WA (l:List (Int×Int)) (t:Int×Int):G6 (l++[t])=max (G6 l) t.2:=by simp[G6]
theorem adp {l:List (Int×Int)} (h:∀ t∈l,Tok t):0≤G6 l∧G6 l≤1000:=by
 have:∀ (l:List (Int×Int)) (m:Int),(∀ t∈l,Tok t)→0≤m→m≤1000→0≤l.foldl (fun m t=>max m t.2) m∧l.foldl (fun m t=>max m t.2) m≤1000:=by
  intro l
  induction l with
  | nil=>intro m _ h1 h2;exact⟨h1,h2⟩
  | cons a r ih =>
   intro m h h1 h2
   have ha:=h a (by simp)
   unfold Tok at ha
   exact ih (max m a.2) (fun t ht=>h t (by simp[ht])) (by omega) (by omega)
 exact this l 0 h (by omega) (by omega)
def aow (p:Pr):Int×Int:=jP (adq 101 p) (WB 101 p)
end Go.Afx
namespace Go.Afx
open Go.RowKit
def jy (n:Nat):Code→Bool
 | .region i _ _=>i==n
 | .seq a _=>jy n a
 | .block _ c=>jy n c
 | .scope c=>jy n c
 | .loop c=>jy n c
 | _=>false
def findLoop (n:Nat):Code→Option Code
 | .loop c=>if jy n c then some c else findLoop n c
 | .seq a b=>match findLoop n a with
  | some c=>some c
  | none=>findLoop n b
 | .block _ c=>findLoop n c
 | .scope c=>findLoop n c
 | .cond _ a b=>match findLoop n a with
  | some c=>some c
  | none=>findLoop n b
 | _=>none
def jl (n:Nat):Code→Option Code
 | .region i ops d=>if i==n then some (.region i ops d) else none
 | .loop c=>jl n c
 | .seq a b=>match jl n a with
  | some c=>some c
  | none=>jl n b
 | .block _ c=>jl n c
 | .scope c=>jl n c
 | .cond _ a b=>match jl n a with
  | some c=>some c
  | none=>jl n b
 | _=>none
def kM (Q:Exit→Act→World→Prop):Exit→Act→World→Prop
 | .panic _,_,_=>False
 | e,a,w=>Q e a w
theorem fM {I:Act→World→Prop} {Q:Exit→Act→World→Prop} (e:Exit) (a:Act) (w:World) (h:Exit.then I (kM Q) e a w):Exit.then I Q e a w:=by
 cases e<;>first|exact h|exact False.elim h
section
variable {P:Program} {md:Region.Mode} {ops:Array Oper} {Q:Exit→Act→World→Prop} {S:World→Prop}
theorem tk (i:Nat) (v:Value) {oi:Oper} {fuel:Nat} {listed:Array Bool} {a:Act} {w:World} (hi:ops[i]?=some oi) (hS:S w) (h:wpAnyH P md ops Q S fuel (listed.setIfInBounds i true) (a.put oi.dst v) w)
  (hs:Region.noSelect ops=true:=by kernel_rfl) (hf:Region.free md ops listed i=true:=by kernel_rfl) (hr:(Region.ready md ops listed).contains i=true:=by kernel_rfl)
  (hQ:∀ c a w,Q (.panic c) (a.put oi.dst v) w→Q (.panic c) a w:=by exact fun _ _ _ h=>h) (hy:YieldsIf P ops S oi v a:=by exact Or.inl ⟨by rfl,fun W hW=>by first|(go_simp;done)|(obtain⟨_,_,_,_⟩:=hW;go_simp)⟩):wpAnyH P md ops Q S (fuel+1) listed a w :=
 wpAnyH_take hi hs hf hr hQ hy hS h
end
end Go.Afx
namespace Go.Afx
open Go.RowKit
def gv (g:Bool) (x:Value):Value:=match g with|true=>x|false=>undef
theorem Z9 (x:Value):gv true x=x:=rfl
theorem agW (x:Value):gv false x=undef:=rfl
section
variable {P:Program} {md:Region.Mode} {ops:Array Oper} {Q:Exit→Act→World→Prop} {S:World→Prop}
theorem tb (i:Nat) (b c:Bool) (v:Bool→Bool→Value) {a:Act} {oi:Oper} {fuel:Nat} {listed:Array Bool} {w:World} (hS:S w)
  (h:wpAnyH P md ops Q S fuel (listed.setIfInBounds i true) (a.put oi.dst (v b c)) w)
  (hi:ops[i]?=some oi:=by rfl) (hs:Region.noSelect ops=true:=by kernel_rfl) (hf:Region.free md ops listed i=true:=by kernel_rfl) (hr:(Region.ready md ops listed).contains i=true:=by kernel_rfl)
  (hQ:∀ x a w,Q (.panic x) a w→False:=by exact fun _ _ _ h=>h)
  (hy : ∀ b' c',b'=b→c'=c→YieldsIf P ops S oi (v b' c') a:=by
   intro b' c' h1 h2
   cases b'<;>cases c'<;>subst h1<;>subst h2<;>first
    | exact Or.inr ⟨by rfl,by rfl⟩
    | exact Or.inl ⟨by rfl,fun W hW=>by
      (try simp only[Z9,agW,Bool.not_true,Bool.not_false,Bool.true_and,Bool.false_and,Bool.true_or,Bool.false_or])
      first
      | (go_simp;done)
      | (obtain⟨_,_⟩:=hW;go_simp;done)
      | (obtain⟨_,_,_⟩:=hW;go_simp;done)
      | (obtain⟨_,_,_,_⟩:=hW;go_simp;done)
      | (obtain⟨_,_,_,_,_⟩:=hW;go_simp)⟩):wpAnyH P md ops Q S (fuel+1) listed a w :=
 wpAnyH_take hi hs hf hr (fun x _ w h=>(hQ x _ w h).elim) (hy b c rfl rfl) hS h
theorem tc (i:Nat) (b c:Bool) (g:Bool→Bool→Bool) {a:Act} {oi:Oper} {f:FuncId} {args:Array Value} {fuel:Nat} {listed:Array Bool} {w:World} (hS:S w)
  (hc:Calls P f args w fun e w'=>∃ q:Bool,e=.returned (.bool q)∧S w')
  (h:∀ (q:Bool) (w':World),S w'→wpAnyH P md ops Q S fuel (listed.setIfInBounds i true) (a.put oi.dst (gv (g b c) (.bool q))) w')
  (hi:ops[i]?=some oi:=by rfl) (hr:Region.ready md ops listed=[i]:=by kernel_rfl)
  (hw:∀ b' c',b'=b→c'=c→Region.wanted oi (yielded ops a.tmps)=g b' c':=by intro b' c' h1 h2;cases b'<;>cases c'<;>subst h1<;>subst h2<;>rfl)
  (hn:∀ b' c',b'=b→c'=c→g b' c'=true→(execOp a.eval oi).run P w=.ok (.enter f args) w:=by
   intro b' c' h1 h2 h
   cases b'<;>cases c'<;>first
    | (cases h;done)
    | (subst h1;subst h2;(try simp only[Z9,agW,Bool.not_true,Bool.not_false,Bool.true_and,Bool.false_and,Bool.true_or,Bool.false_or]);go_simp;done)):wpAnyH P md ops Q S (fuel+1) listed a w:=by
 refine wpAnyH_ready (rs:=[i]) hr (by simp) (AllReadyH.cons hi (fun K hK=>?_) AllReadyH.nil)
 rw[hw b c rfl rfl]
 cases hg:g b c with
 | true =>
  rw[if_pos rfl]
  unfold Oper.wp
  rw[hn b c rfl rfl hg]
  refine Calls.mono hc ?_
  rintro e w' ⟨q,rfl,h2⟩
  refine hK.out _ _ h2 fun _=>?_
  have:=h q w' h2
  rw[hg] at this
  exact this
 | false =>
  rw[if_neg (by simp)]
  refine hK.out _ _ hS fun _=>?_
  have:=h true w hS
  rw[hg] at this
  exact this
theorem tcr (R:World→Prop) (i:Nat) (b c:Bool) (g:Bool→Bool→Bool) {a:Act} {oi:Oper} {f:FuncId} {args:Array Value} {fuel:Nat} {listed:Array Bool} {w:World} (hS:S w) (hR:R w)
  (hc:Calls P f args w fun e w'=>∃ q:Bool,e=.returned (.bool q)∧S w'∧R w')
  (h:∀ (q:Bool) (w':World),S w'→R w'→wpAnyH P md ops Q S fuel (listed.setIfInBounds i true) (a.put oi.dst (gv (g b c) (.bool q))) w')
  (hi:ops[i]?=some oi:=by rfl) (hr:Region.ready md ops listed=[i]:=by kernel_rfl)
  (hw:∀ b' c',b'=b→c'=c→Region.wanted oi (yielded ops a.tmps)=g b' c':=by intro b' c' h1 h2;cases b'<;>cases c'<;>subst h1<;>subst h2<;>rfl)
  (hn:∀ b' c',b'=b→c'=c→g b' c'=true→(execOp a.eval oi).run P w=.ok (.enter f args) w:=by
   intro b' c' h1 h2 h
   cases b'<;>cases c'<;>first
    | (cases h;done)
    | (subst h1;subst h2;(try simp only[Z9,agW,Bool.not_true,Bool.not_false,Bool.true_and,Bool.false_and,Bool.true_or,Bool.false_or]);go_simp;done)):wpAnyH P md ops Q S (fuel+1) listed a w:=by
 refine wpAnyH_ready (rs:=[i]) hr (by simp) (AllReadyH.cons hi (fun K hK=>?_) AllReadyH.nil)
 rw[hw b c rfl rfl]
 cases hg:g b c with
 | true =>
  rw[if_pos rfl]
  unfold Oper.wp
  rw[hn b c rfl rfl hg]
  refine Calls.mono hc ?_
  rintro e w' ⟨q,rfl,h2,h3⟩
  refine hK.out _ _ h2 fun _=>?_
  have:=h q w' h2 h3
  rw[hg] at this
  exact this
 | false =>
  rw[if_neg (by simp)]
  refine hK.out _ _ hS fun _=>?_
  have:=h true w hS hR
  rw[hg] at this
  exact this
end
end Go.Afx
namespace Go.Proofs.YtjjfkhbajidmdaaGreatDoor
open Go.RowKit Go.Afx
def SB (w:World) (e:Ending) (w':World):Prop:=∃ b:Bool,e=.returned (.bool b)∧Below w.heap.size w w'
def SQ (w:World) (e:Ending) (w':World):Prop:=∃ b:Bool,e=.returned (.bool b)∧w=w'
theorem SB.from {w w1 w2:World} {e:Ending} (h:SB w1 e w2) (hb:Below w.heap.size w w1):SB w e w2:=by
 obtain⟨b,he,h2⟩:=h
 exact⟨b,he,hb.trans (h2.mono hb.size)⟩
theorem WC:∀ y∈ug,okS y:=by unfold okS;decide +kernel
theorem aab (s:ByteArray) (w:World):Calls Tryz.prog 57 #[.string s] w (SB w):=by
  obtain⟨w1,Hw1⟩:∃ w1,Hid (w1=w.alloc (.cells (ug.map fun s=>Value.string s).toArray 9)):=⟨_,rfl⟩
  have hb1:Below w.heap.size w w1:=by rw[Hw1.out];exact(Below.refl _ _).alloc (Nat.le_refl _) _
  have hl:ai (fun _=>True) w1 1 dL (some ⟨w.heap.size,0,none⟩) 43 43 ug:=by
    rw[Hw1.out]
    refine⟨ug.map fun s=>[.string s],az.lit _ _ 43 rfl (by simp) rfl (by unfold maxLen;omega),fun _ _ _=>trivial,rfl,fun k r x hr hx=>?_⟩
    rw[List.getElem?_map,hx] at hr
    simp at hr
    subst hr
    exact⟨rfl,rfl,WC x (List.mem_of_getElem? hx)⟩
  simp only[ug,str,List.map_cons,List.map_nil] at Hw1
  have Hl:=ae hl
  clear hl
  go_enter Tryz.func57,Tryz.ntmps57
  go_wp2
  rw[← Hw1.out]
  go_loop [4] (fun i=>∃ k:Nat,k≤43∧i=.int .i64 k) (fun i=>43-(intOf i).toNat)
  case atStart=>exact⟨0,Nat.zero_le _,rfl⟩
  case round =>
    obtain⟨k,hk,rfl⟩:=hrel
    by_cases hlt:k<43
    · obtain⟨b,o,x,hA,hbl,hx,hs,hc0⟩:=Vr Hl.out hlt
      cases hA
      clear hx
      simp only[Nat.zero_add] at hc0
      go_wp2
      all_goals
        first
        | (go_ret;exact⟨_,rfl,hb1⟩)
        | (go_round
           case rel=>exact⟨k+1,by omega,by go_num⟩
           case measure=>simp[intOf];omega)
    · go_wp2
      go_ret
      exact⟨_,rfl,hb1⟩
theorem SN (s:ByteArray) (w:World) (hs:okS s):Calls Tryz.prog 56 #[.string s] w (SQ w):=by
  unfold okS at hs
  go_enter Tryz.func56,Tryz.ntmps56
  go_wp2
  all_goals
    first
    | (go_ret;exact⟨_,rfl,rfl⟩)
    | (go_loop [3] (fun i=>∃ k:Nat,k≤s.size∧i=.int .i64 k) (fun i=>s.size-(intOf i).toNat)
       case atStart=>exact⟨0,Nat.zero_le _,rfl⟩
       case round =>
         obtain⟨k,hk,rfl⟩:=hrel
         by_cases hlt:k<s.size
         · go_wp2
           all_goals
             first
             | (go_ret;exact⟨_,rfl,rfl⟩)
             | (go_round
                case rel=>exact⟨k+1,by omega,by go_num⟩
                case measure=>simp[intOf];omega)
         · go_wp2
           go_ret
           exact⟨_,rfl,rfl⟩)
theorem lq (s:ByteArray) (w:World) (hs:okS s):Calls Tryz.prog 25 #[.string s] w (SB w):=by
 have H1:=ae (SN s w hs)
 have H2:=ae (aab s w)
 go_enter Tryz.func25,Tryz.ntmps25
 go_wp2_with (first|(go_at_call 56;refine H1.out.mono ?_;rintro x w1 ⟨b,rfl,rfl⟩;cases b)|(go_at_call 57;refine H2.out.mono ?_;rintro x w2 ⟨b,rfl,hb2⟩))
 all_goals
  go_ret
  first
  | exact⟨_,rfl,Below.refl _ _⟩
  | exact⟨_,rfl,hb2⟩
theorem wF {w:World} {g:Nat} {T:TypeId} {v0 v1 v2 v3 v4 v5 v6 v7:Value} (h:af w g T #[v0,v1,v2,v3,v4,v5,v6,v7]) :
  w.cell? ⟨g,0,none⟩=some v0∧w.cell? ⟨g,1,none⟩=some v1∧w.cell? ⟨g,2,none⟩=some v2∧w.cell? ⟨g,3,none⟩=some v3∧w.cell? ⟨g,4,none⟩=some v4∧w.cell? ⟨g,5,none⟩=some v5∧w.cell? ⟨g,6,none⟩=some v6∧w.cell? ⟨g,7,none⟩=some v7∧g<w.heap.size:=by
 have h0:=h.cell 0;have h1:=h.cell 1;have h2:=h.cell 2;have h3:=h.cell 3;have h4:=h.cell 4;have h5:=h.cell 5;have h6:=h.cell 6;have h7:=h.cell 7
 simp at h0 h1 h2 h3 h4 h5 h6 h7
 exact⟨h0,h1,h2,h3,h4,h5,h6,h7,h.lt⟩
noncomputable def FI (n:Nat):Code:=((Tryz.f26.body.bind (jl n)).getD .skip)
def SA (w w2:World) (name src:ByteArray) (W:World):Prop:=W.cell? ⟨w.heap.size,1,none⟩=some (.string name)∧W.cell? ⟨w.heap.size,2,none⟩=some (.string src)∧Below w2.heap.size w2 W
theorem Vs (s:ByteArray) (k:Int) (w:World) (hs:okS s):Calls Tryz.prog 58 #[.string s,.int .u8 k] w (SQ w):=by
  unfold okS at hs
  go_enter Tryz.func58,Tryz.ntmps58
  go_wp2
  go_loop [5] (fun i=>∃ j:Nat,j≤s.size∧i=.int .i64 j) (fun i=>s.size-(intOf i).toNat)
  case atStart=>exact⟨0,Nat.zero_le _,rfl⟩
  case round =>
    obtain⟨j,hj,rfl⟩:=hrel
    by_cases hlt:j<s.size
    · go_wp2
      all_goals
        first
        | (go_ret;exact⟨_,rfl,rfl⟩)
        | (go_round
           case rel=>exact⟨j+1,by omega,by go_num⟩
           case measure=>simp[intOf];omega)
    · go_wp2
      go_ret
      exact⟨_,rfl,rfl⟩
theorem adr (op n:Int) (name src f:ByteArray) (Ac Ae Ab Al:Option Addr) (nc cc ne ce nb cb nl cl:Nat) (w w2:World) {x0 x2 x3 x5 x6 x7 x8 x9 x10 x11 x12 J4 x14 x15 x16 x17 x18 x19 x20 yj xC vN x24 x25 Fh x27 x28 x29 x30 x31 x32 EC x34 ED Fj Fp x38 x39 x40 x41 vZ x43 wo Fq Fv Fz FB Gi Gj Gl Gm Gn x54 x55 Gp Gq Gs Gt Gu Gv Gw Gx Gy Gz x66 GG GH x69 GI GK GL GM GN GR GU GV GX GY x80 x81 x82 x83 x84 x85 x86 x87 x88 x89 x90 x91 GZ x93 FC x95 x96 FD x98 x99 x100 x101 x102 x103 x104 x105 nH x107 nI nJ nK nM x112 x113 x114 x115 l9 mf mg mi mr mD mF mG mJ nN nO nP nR nS nT nU nV nX nY nZ og oh oq ou oz oC oD qp qw qx qy qA qB qC x150 x151 x152 x153 qE qF qG x157 x158 x159 x160 qH qI qJ qK qL qM x167 x168 qN qO qP qQ qR qU qV qW qX qY qZ rq ru ry rC rD rE rF rG rH rJ sJ sK sN sO sQ sS sU sV sW sZ:Value} {I:Act→World→Prop} {Q0:Exit→Act→World→Prop}
  (agX:okS name) (agY:okS src) (G7:okS f) (hx2:af w2 w.heap.size 49 #[.int .i64 op,.string name,.string src,.int .i64 n,.slice Ac nc cc,.slice Ae ne ce,.slice Ab nb cb,.slice Al nl cl])
  (hI:∀ (y24 y25 y26 y27 y28 y29 y30 y31 y32 y33 y34 y35 y36 y37 y38 y39 y40 Vd Ve Vf Vg y45 y46 y47 y48 y49 y50 y51 y52 y53 y54 y55 y56 y57:Value) (b:Bool) (W:World),y57=.bool b→Below w2.heap.size w2 W→I ⟨#[x0,.pointer (some ⟨w.heap.size,0,none⟩),x2,x3,.string f,x5,x6,x7,x8,x9,x10,x11,x12,J4,x14,x15,x16,x17,x18,x19,x20,yj,xC,vN,y24,y25,y26,y27,y28,y29,y30,y31,y32,y33,y34,y35,y36,y37,y38,y39,y40,Vd,Ve,Vf,Vg,y45,y46,y47,y48,y49,y50,y51,y52,y53,y54,y55,y56,y57,Gs,Gt,Gu,Gv,Gw,Gx,Gy,Gz,x66,GG,GH,x69,GI,GK,GL,GM,GN,GR,GU,GV,GX,GY,x80,x81,x82,x83,x84,x85,x86,x87,x88,x89,x90,x91,GZ,x93,FC,x95,x96,FD,x98,x99,x100,x101,x102,x103,x104,x105,nH,x107,nI,nJ,nK,nM,x112,x113,x114,x115,l9,mf,mg,mi,mr,mD,mF,mG,mJ,nN,nO,nP,nR,nS,nT,nU,nV,nX,nY,nZ,og,oh,oq,ou,oz,oC,oD,qp,qw,qx,qy,qA,qB,qC,x150,x151,x152,x153,qE,qF,qG,x157,x158,x159,x160,qH,qI,qJ,qK,qL,qM,x167,x168,qN,qO,qP,qQ,qR,qU,qV,qW,qX,qY,qZ,rq,ru,ry,rC,rD,rE,rF,rG,rH,rJ,sJ,sK,sN,sO,sQ,sS,sU,sV,sW,sZ],[]⟩ W) :
  Code.wp Tryz.prog (FI 5) (Exit.then I (kM Q0)) ⟨#[x0,.pointer (some ⟨w.heap.size,0,none⟩),x2,x3,.string f,x5,x6,x7,x8,x9,x10,x11,x12,J4,x14,x15,x16,x17,x18,x19,x20,yj,xC,vN,x24,x25,Fh,x27,x28,x29,x30,x31,x32,EC,x34,ED,Fj,Fp,x38,x39,x40,x41,vZ,x43,wo,Fq,Fv,Fz,FB,Gi,Gj,Gl,Gm,Gn,x54,x55,Gp,Gq,Gs,Gt,Gu,Gv,Gw,Gx,Gy,Gz,x66,GG,GH,x69,GI,GK,GL,GM,GN,GR,GU,GV,GX,GY,x80,x81,x82,x83,x84,x85,x86,x87,x88,x89,x90,x91,GZ,x93,FC,x95,x96,FD,x98,x99,x100,x101,x102,x103,x104,x105,nH,x107,nI,nJ,nK,nM,x112,x113,x114,x115,l9,mf,mg,mi,mr,mD,mF,mG,mJ,nN,nO,nP,nR,nS,nT,nU,nV,nX,nY,nZ,og,oh,oq,ou,oz,oC,oD,qp,qw,qx,qy,qA,qB,qC,x150,x151,x152,x153,qE,qF,qG,x157,x158,x159,x160,qH,qI,qJ,qK,qL,qM,x167,x168,qN,qO,qP,qQ,qR,qU,qV,qW,qX,qY,qZ,rq,ru,ry,rC,rD,rE,rF,rG,rH,rJ,sJ,sK,sN,sO,sQ,sS,sU,sV,sW,sZ],[]⟩ w2:=by
 conv=>arg 2;whnf
 have HI:=ae hI
 clear hI
 have h0:=wF hx2
 have hB0:=Below.refl w2.heap.size w2
 have HX:=ae (fun W (hW:Below w2.heap.size w2 W)=>(show SA w w2 name src W from
  ⟨(hW.cell (p:=⟨w.heap.size,1,none⟩) h0.2.2.2.2.2.2.2.2).trans h0.2.1,(hW.cell (p:=⟨w.heap.size,2,none⟩) h0.2.2.2.2.2.2.2.2).trans h0.2.2.1,hW⟩))
 have HN:=fun (s:ByteArray) (hs:okS s) (W:World) (k:Int) (hW:SA w w2 name src W) =>
  (Vs s k W hs).mono fun e w' ⟨b,he,hw⟩=>(show ∃ q:Bool,e=Ending.returned (.bool q)∧SA w w2 name src w' from ⟨b,he,hw▸hW⟩)
 have HF:=fun (s:ByteArray) (hs:okS s) (W:World) (hW:SA w w2 name src W) =>
  (lq s W hs).mono fun e w' ⟨b,he,hw⟩=>(show ∃ q:Bool,e=Ending.returned (.bool q)∧SA w w2 name src w' from ⟨b,he,HX.out w' (hW.2.2.trans (hw.mono hW.2.2.size))⟩)
 have HN:=ae HN
 have HF:=ae HF
 obtain⟨en,hen⟩:∃ b,(name.toList !=[])=b:=⟨_,rfl⟩
 obtain⟨es,hes⟩:∃ b,(src.toList !=[])=b:=⟨_,rfl⟩
 have apK:(name.toList==[]) = !en:=by rw[← hen];simp[bne]
 have hes2:(src.toList==[]) = !es:=by rw[← hes];simp[bne]
 clear hx2 h0
 refine wp_region_held (S:=SA w w2 name src) (by kernel_rfl) ?_
 change wpAnyH _ _ _ _ _ _ _ _ (World.drew _)
 have bM:=HX.out _ hB0.drew
 clear hB0
 refine tk 0 (.string f) rfl bM ?_
 go_simp
 refine tk 2 (.pointer (some ⟨w.heap.size,1,none⟩)) rfl bM ?_
 go_simp
 refine tk 3 (.string name) rfl bM ?_
 go_simp
 refine tk 4 (.bool en) rfl bM ?_
 go_simp
 refine(tc 1 en es fun _ _=>true) bM (HN.out f G7 _ 110 bM) ?_
 clear bM
 intro q1 w' bM
 simp only[Z9]
 go_simp
 generalize w'=v1 at *
 refine tk 5 (.bool (!(q1==en))) rfl bM ?_
 go_simp
 generalize (!(q1==en))=q5
 refine tk 6 (.bool q5) rfl bM ?_
 go_simp
 refine(tb 7 q5 q1 fun b _=>gv (!b) (.string f)) bM ?_
 go_simp
 refine(tb 9 q5 q1 fun b _=>gv (!b) (.pointer (some ⟨w.heap.size,2,none⟩))) bM ?_
 go_simp
 refine(tb 10 q5 q1 fun b _=>gv (!b) (.string src)) bM ?_
 go_simp
 refine(tb 11 q5 q1 fun b _=>gv (!b) (.bool es)) bM ?_
 go_simp
 refine(tc 8 q5 q1 fun b _=>!b) bM (HN.out f G7 _ 115 bM) ?_
 clear bM
 intro q8 w' bM
 go_simp
 generalize w'=v8 at *
 refine(tb 12 q5 q1 fun b _=>gv (!b) (.bool (!(q8==es)))) bM ?_
 go_simp
 generalize (!(q8==es))=q12
 refine(tb 13 q5 q1 fun b _=>.bool (b||q12)) bM ?_
 go_simp
 generalize (q5||q12)=q14
 refine tk 14 (.bool q14) rfl bM ?_
 go_simp
 refine(tb 15 q14 q1 fun b _=>gv (!b) (.string f)) bM ?_
 go_simp
 refine(tc 16 q14 q1 fun b _=>!b) bM (HN.out f G7 _ 110 bM) ?_
 clear bM
 intro q16 w' bM
 go_simp
 generalize w'=v16 at *
 refine(tb 17 q14 q1 fun b _=>gv (!b) (.bool q16)) bM ?_
 go_simp
 refine(tb 18 q14 q16 fun b c=>gv (!b&&c) (.pointer (some ⟨w.heap.size,1,none⟩))) bM ?_
 go_simp
 refine(tb 19 q14 q16 fun b c=>gv (!b&&c) (.string name)) bM ?_
 go_simp
 refine(tc 20 q14 q16 fun b c=>!b&&c) bM (HF.out name agX _ bM) ?_
 clear bM
 intro q20 w' bM
 go_simp
 generalize w'=v20 at *
 refine(tb 21 q14 q16 fun b c=>gv (!b&&c) (.bool (!q20))) bM ?_
 go_simp
 refine(tb 22 q14 q16 fun b c=>gv (!b) (.bool (c&&!q20))) bM ?_
 go_simp
 generalize (q16&&!q20)=q22
 refine(tb 23 q14 q1 fun b _=>.bool (b||q22)) bM ?_
 go_simp
 generalize (q14||q22)=q24
 refine tk 24 (.bool q24) rfl bM ?_
 go_simp
 refine(tb 25 q24 q1 fun b _=>gv (!b) (.string f)) bM ?_
 go_simp
 refine(tc 26 q24 q1 fun b _=>!b) bM (HN.out f G7 _ 115 bM) ?_
 clear bM
 intro q26 w' bM
 go_simp
 generalize w'=v26 at *
 refine(tb 27 q24 q1 fun b _=>gv (!b) (.bool q26)) bM ?_
 go_simp
 refine(tb 28 q24 q26 fun b c=>gv (!b&&c) (.pointer (some ⟨w.heap.size,2,none⟩))) bM ?_
 go_simp
 refine(tb 29 q24 q26 fun b c=>gv (!b&&c) (.string src)) bM ?_
 go_simp
 refine(tc 30 q24 q26 fun b c=>!b&&c) bM (HF.out src agY _ bM) ?_
 clear bM
 intro q30 w' bM
 go_simp
 generalize w'=v30 at *
 refine(tb 31 q24 q26 fun b c=>gv (!b&&c) (.bool (!q30))) bM ?_
 go_simp
 refine(tb 32 q24 q26 fun b c=>gv (!b) (.bool (c&&!q30))) bM ?_
 go_simp
 generalize (q26&&!q30)=q32
 refine(tb 33 q24 q1 fun b _=>.bool (b||q32)) bM ?_
 go_simp
 generalize (q24||q32)=q34
 refine wpAnyH_done (by kernel_rfl) ?_ _
 exact HI.out _ _ _ _ _ _ _ _ _ _ _ _ _ _ _ _ _ _ _ _ _ _ _ _ _ _ _ _ _ _ _ _ _ _ _ _ rfl bM.2.2
def SB7 (w w2:World) (n:Int) (Ac:Option Addr) (nc cc:Nat) (Ab:Option Addr) (nb cb:Nat) (Al:Option Addr) (nl cl:Nat) (W:World):Prop:=W.cell? ⟨w.heap.size,3,none⟩=some (.int .i64 n)∧W.cell? ⟨w.heap.size,4,none⟩=some (.slice Ac nc cc)∧W.cell? ⟨w.heap.size,6,none⟩=some (.slice Ab nb cb)∧W.cell? ⟨w.heap.size,7,none⟩=some (.slice Al nl cl)∧Below w2.heap.size w2 W
theorem ads (op n:Int) (name src f:ByteArray) (Ac Ae Ab Al:Option Addr) (nc cc ne ce nb cb nl cl:Nat) (w w2:World) {x0 x2 x3 x5 x6 x7 x8 x9 x10 x11 x12 J4 x14 x15 x16 x17 x18 x19 x20 yj xC vN x24 x25 Fh x27 x28 x29 x30 x31 x32 EC x34 ED Fj Fp x38 x39 x40 x41 vZ x43 wo Fq Fv Fz FB Gi Gj Gl Gm Gn x54 x55 Gp Gq Gs Gt Gu Gv Gw Gx Gy Gz x66 GG GH x69 GI GK GL GM GN GR GU GV GX GY x80 x81 x82 x83 x84 x85 x86 x87 x88 x89 x90 x91 GZ x93 FC x95 x96 FD x98 x99 x100 x101 x102 x103 x104 x105 nH x107 nI nJ nK nM x112 x113 x114 x115 l9 mf mg mi mr mD mF mG mJ nN nO nP nR nS nT nU nV nX nY nZ og oh oq ou oz oC oD qp qw qx qy qA qB qC x150 x151 x152 x153 qE qF qG x157 x158 x159 x160 qH qI qJ qK qL qM x167 x168 qN qO qP qQ qR qU qV qW qX qY qZ rq ru ry rC rD rE rF rG rH rJ sJ sK sN sO sQ sS sU sV sW sZ:Value} {I:Act→World→Prop} {Q0:Exit→Act→World→Prop}
  (G7:okS f) (hx2:af w2 w.heap.size 49 #[.int .i64 op,.string name,.string src,.int .i64 n,.slice Ac nc cc,.slice Ae ne ce,.slice Ab nb cb,.slice Al nl cl])
  (hI:∀ (y58 y59 y60 y61 y62 y63 y64 y65 y66 y67 y68 y69 y70 y71 y72 y73 y74 y75 y76 y77 y78 y79 y80 y81 y82 y83 y84 y85 y86 y87 y88 y89 y90 y91 y92 y93 y94 y95 y96 y97 y98 y99 YH y101 y102 YI y104 YJ YK YL YM YN YO YP y112:Value) (b:Bool) (W:World),y112=.bool b→Below w2.heap.size w2 W→I ⟨#[x0,.pointer (some ⟨w.heap.size,0,none⟩),x2,x3,.string f,x5,x6,x7,x8,x9,x10,x11,x12,J4,x14,x15,x16,x17,x18,x19,x20,yj,xC,vN,x24,x25,Fh,x27,x28,x29,x30,x31,x32,EC,x34,ED,Fj,Fp,x38,x39,x40,x41,vZ,x43,wo,Fq,Fv,Fz,FB,Gi,Gj,Gl,Gm,Gn,x54,x55,Gp,Gq,y58,y59,y60,y61,y62,y63,y64,y65,y66,y67,y68,y69,y70,y71,y72,y73,y74,y75,y76,y77,y78,y79,y80,y81,y82,y83,y84,y85,y86,y87,y88,y89,y90,y91,y92,y93,y94,y95,y96,y97,y98,y99,YH,y101,y102,YI,y104,YJ,YK,YL,YM,YN,YO,YP,y112,x113,x114,x115,l9,mf,mg,mi,mr,mD,mF,mG,mJ,nN,nO,nP,nR,nS,nT,nU,nV,nX,nY,nZ,og,oh,oq,ou,oz,oC,oD,qp,qw,qx,qy,qA,qB,qC,x150,x151,x152,x153,qE,qF,qG,x157,x158,x159,x160,qH,qI,qJ,qK,qL,qM,x167,x168,qN,qO,qP,qQ,qR,qU,qV,qW,qX,qY,qZ,rq,ru,ry,rC,rD,rE,rF,rG,rH,rJ,sJ,sK,sN,sO,sQ,sS,sU,sV,sW,sZ],[]⟩ W) :
  Code.wp Tryz.prog (FI 7) (Exit.then I (kM Q0)) ⟨#[x0,.pointer (some ⟨w.heap.size,0,none⟩),x2,x3,.string f,x5,x6,x7,x8,x9,x10,x11,x12,J4,x14,x15,x16,x17,x18,x19,x20,yj,xC,vN,x24,x25,Fh,x27,x28,x29,x30,x31,x32,EC,x34,ED,Fj,Fp,x38,x39,x40,x41,vZ,x43,wo,Fq,Fv,Fz,FB,Gi,Gj,Gl,Gm,Gn,x54,x55,Gp,Gq,Gs,Gt,Gu,Gv,Gw,Gx,Gy,Gz,x66,GG,GH,x69,GI,GK,GL,GM,GN,GR,GU,GV,GX,GY,x80,x81,x82,x83,x84,x85,x86,x87,x88,x89,x90,x91,GZ,x93,FC,x95,x96,FD,x98,x99,x100,x101,x102,x103,x104,x105,nH,x107,nI,nJ,nK,nM,x112,x113,x114,x115,l9,mf,mg,mi,mr,mD,mF,mG,mJ,nN,nO,nP,nR,nS,nT,nU,nV,nX,nY,nZ,og,oh,oq,ou,oz,oC,oD,qp,qw,qx,qy,qA,qB,qC,x150,x151,x152,x153,qE,qF,qG,x157,x158,x159,x160,qH,qI,qJ,qK,qL,qM,x167,x168,qN,qO,qP,qQ,qR,qU,qV,qW,qX,qY,qZ,rq,ru,ry,rC,rD,rE,rF,rG,rH,rJ,sJ,sK,sN,sO,sQ,sS,sU,sV,sW,sZ],[]⟩ w2:=by
 conv=>arg 2;whnf
 have HI:=ae hI
 clear hI
 have h0:=wF hx2
 have hB0:=Below.refl w2.heap.size w2
 have HN:=ae (fun (s:ByteArray) (hs:okS s) (W:World) (k:Int) (hW:SB7 w w2 n Ac nc cc Ab nb cb Al nl cl W) =>
  (Vs s k W hs).mono fun e w' ⟨b,he,hw⟩=>(show ∃ q:Bool,e=Ending.returned (.bool q)∧SB7 w w2 n Ac nc cc Ab nb cb Al nl cl w' from ⟨b,he,hw▸hW⟩))
 obtain⟨d0,hd0⟩:∃ b,decide (0<nc)=b:=⟨_,rfl⟩
 obtain⟨d8,hd8⟩:∃ b,decide ((8:Int)<(nc:Int))=b:=⟨_,rfl⟩
 obtain⟨dz,hdz⟩:∃ b,(n !=0)=b:=⟨_,rfl⟩
 obtain⟨dn,hdn⟩:∃ b,decide (n<0)=b:=⟨_,rfl⟩
 obtain⟨dk,hdk⟩:∃ b,decide (1000<n)=b:=⟨_,rfl⟩
 obtain⟨db,hdb⟩:∃ b,decide (0<nb)=b:=⟨_,rfl⟩
 obtain⟨de,hde⟩:∃ b,decide (0<nl)=b:=⟨_,rfl⟩
 have bM:SB7 w w2 n Ac nc cc Ab nb cb Al nl cl w2.drew:=⟨h0.2.2.2.1,h0.2.2.2.2.1,h0.2.2.2.2.2.2.1,h0.2.2.2.2.2.2.2.1,hB0.drew⟩
 clear hx2 h0 hB0
 refine wp_region_held (S:=SB7 w w2 n Ac nc cc Ab nb cb Al nl cl) (by kernel_rfl) ?_
 change wpAnyH _ _ _ _ _ _ _ _ (World.drew _)
 refine tk 0 (.string f) rfl bM ?_
 go_simp
 refine tk 2 (.pointer (some ⟨w.heap.size,4,none⟩)) rfl bM ?_
 go_simp
 refine tk 3 (.slice Ac nc cc) rfl bM ?_
 go_simp
 refine tk 4 (.int .i64 (nc:Int)) rfl bM ?_
 go_simp
 refine tk 5 (.bool d0) rfl bM ?_
 go_simp
 refine(tc 1 d0 d8 fun _ _=>true) bM (HN.out f G7 _ 99 bM) ?_
 clear bM
 intro q1 w' bM
 simp only[Z9]
 go_simp
 generalize w'=v1 at *
 refine tk 6 (.bool (!(q1==d0))) rfl bM ?_
 go_simp
 generalize (!(q1==d0))=q7
 refine tk 7 (.bool q7) rfl bM ?_
 go_simp
 refine(tb 8 q7 q1 fun b _=>gv (!b) (.pointer (some ⟨w.heap.size,4,none⟩))) bM ?_
 go_simp
 refine(tb 9 q7 q1 fun b c=>gv (!b) (.slice Ac nc cc)) bM ?_
 go_simp
 refine(tb 10 q7 q1 fun b _=>gv (!b) (.int .i64 (nc:Int))) bM ?_
 go_simp
 refine(tb 11 q7 q1 fun b _=>gv (!b) (.bool d8)) bM ?_
 go_simp
 refine(tb 12 q7 q1 fun b _=>.bool (b||d8)) bM ?_
 go_simp
 generalize (q7||d8)=q13
 refine tk 13 (.bool q13) rfl bM ?_
 go_simp
 refine(tb 14 q13 q1 fun b _=>gv (!b) (.string f)) bM ?_
 go_simp
 refine(tc 15 q13 q1 fun b _=>!b) bM (HN.out f G7 _ 78 bM) ?_
 clear bM
 intro q15 w' bM
 go_simp
 generalize w'=v15 at *
 refine(tb 16 q13 q1 fun b _=>gv (!b) (.bool (!q15))) bM ?_
 go_simp
 generalize (!q15)=q17
 refine(tb 17 q13 q1 fun b _=>gv (!b) (.bool q17)) bM ?_
 go_simp
 refine(tb 18 q13 q17 fun b c=>gv (!b&&c) (.pointer (some ⟨w.heap.size,3,none⟩))) bM ?_
 go_simp
 refine(tb 19 q13 q17 fun b c=>gv (!b&&c) (.int .i64 n)) bM ?_
 go_simp
 refine(tb 20 q13 q17 fun b c=>gv (!b&&c) (.bool dz)) bM ?_
 go_simp
 refine(tb 21 q13 q17 fun b c=>gv (!b) (.bool (c&&dz))) bM ?_
 go_simp
 generalize (q17&&dz)=q21
 refine(tb 22 q13 q1 fun b _=>.bool (b||q21)) bM ?_
 go_simp
 generalize (q13||q21)=q23
 refine tk 23 (.bool q23) rfl bM ?_
 go_simp
 refine(tb 24 q23 q1 fun b _=>gv (!b) (.pointer (some ⟨w.heap.size,3,none⟩))) bM ?_
 go_simp
 refine(tb 25 q23 q1 fun b _=>gv (!b) (.int .i64 n)) bM ?_
 go_simp
 refine(tb 26 q23 q1 fun b _=>gv (!b) (.bool dn)) bM ?_
 go_simp
 refine(tb 27 q23 q1 fun b _=>.bool (b||dn)) bM ?_
 go_simp
 generalize (q23||dn)=q28
 refine tk 28 (.bool q28) rfl bM ?_
 go_simp
 refine(tb 29 q28 q1 fun b _=>gv (!b) (.pointer (some ⟨w.heap.size,3,none⟩))) bM ?_
 go_simp
 refine(tb 30 q28 q1 fun b _=>gv (!b) (.int .i64 n)) bM ?_
 go_simp
 refine(tb 31 q28 q1 fun b _=>gv (!b) (.bool dk)) bM ?_
 go_simp
 refine(tb 32 q28 q1 fun b _=>.bool (b||dk)) bM ?_
 go_simp
 generalize (q28||dk)=YB
 refine tk 33 (.bool YB) rfl bM ?_
 go_simp
 refine(tb 34 YB q1 fun b _=>gv (!b) (.string f)) bM ?_
 go_simp
 refine(tc 35 YB q1 fun b _=>!b) bM (HN.out f G7 _ 98 bM) ?_
 clear bM
 intro q35 w' bM
 go_simp
 generalize w'=v35 at *
 refine(tb 36 YB q1 fun b _=>gv (!b) (.bool (!q35))) bM ?_
 go_simp
 generalize (!q35)=q37
 refine(tb 37 YB q1 fun b _=>gv (!b) (.bool q37)) bM ?_
 go_simp
 refine(tb 38 YB q37 fun b c=>gv (!b&&c) (.pointer (some ⟨w.heap.size,6,none⟩))) bM ?_
 go_simp
 refine(tb 39 YB q37 fun b c=>gv (!b&&c) (.slice Ab nb cb)) bM ?_
 go_simp
 refine(tb 40 YB q37 fun b c=>gv (!b&&c) (.int .i64 (nb:Int))) bM ?_
 go_simp
 refine(tb 41 YB q37 fun b c=>gv (!b&&c) (.bool db)) bM ?_
 go_simp
 refine(tb 42 YB q37 fun b c=>gv (!b) (.bool (c&&db))) bM ?_
 go_simp
 generalize (q37&&db)=q42
 refine(tb 43 YB q1 fun b _=>.bool (b||q42)) bM ?_
 go_simp
 generalize (YB||q42)=YC
 refine tk 44 (.bool YC) rfl bM ?_
 go_simp
 refine(tb 45 YC q1 fun b _=>gv (!b) (.string f)) bM ?_
 go_simp
 refine(tc 46 YC q1 fun b _=>!b) bM (HN.out f G7 _ 101 bM) ?_
 clear bM
 intro q46 w' bM
 go_simp
 generalize w'=v46 at *
 refine(tb 47 YC q1 fun b _=>gv (!b) (.bool (!q46))) bM ?_
 go_simp
 generalize (!q46)=q48
 refine(tb 48 YC q1 fun b _=>gv (!b) (.bool q48)) bM ?_
 go_simp
 refine(tb 49 YC q48 fun b c=>gv (!b&&c) (.pointer (some ⟨w.heap.size,7,none⟩))) bM ?_
 go_simp
 refine(tb 50 YC q48 fun b c=>gv (!b&&c) (.slice Al nl cl)) bM ?_
 go_simp
 refine(tb 51 YC q48 fun b c=>gv (!b&&c) (.int .i64 (nl:Int))) bM ?_
 go_simp
 refine(tb 52 YC q48 fun b c=>gv (!b&&c) (.bool de)) bM ?_
 go_simp
 refine(tb 53 YC q48 fun b c=>gv (!b) (.bool (c&&de))) bM ?_
 go_simp
 generalize (q48&&de)=q53
 refine(tb 54 YC q1 fun b _=>.bool (b||q53)) bM ?_
 go_simp
 generalize (YC||q53)=q55
 refine wpAnyH_done (by kernel_rfl) ?_ _
 exact HI.out _ _ _ _ _ _ _ _ _ _ _ _ _ _ _ _ _ _ _ _ _ _ _ _ _ _ _ _ _ _ _ _ _ _ _ _ _ _ _ _ _ _ _ _ _ _ _ _ _ _ _ _ _ _ _ _ _ rfl bM.2.2.2.2
end Go.Proofs.YtjjfkhbajidmdaaGreatDoor
