/- Parts of this proof, one behind the other: EvP. -/
import Derived.Test.YtmfcmpnlipnopaaGreatTw14
set_option maxRecDepth 1000000
set_option maxHeartbeats 40000000
namespace Go.Ev
/-! slots, eight by eight by eight -/
structure V8 (α:Type) where
 a0:α
 a1:α
 a2:α
 a3:α
 a4:α
 a5:α
 a6:α
 a7:α
inductive Dig where|d0|d1|d2|d3|d4|d5|d6|d7
 deriving DecidableEq
inductive P3 where|no|mk (a b c:Dig)
abbrev E3:=V8 (V8 (V8 (Option AV)))
def dig:Nat→Dig
 | 0=>.d0|1=>.d1|2=>.d2|3=>.d3|4=>.d4|5=>.d5|6=>.d6|_=>.d7
def pth (t:Nat):P3:=match Nat.blt t 512 with
 | true=>.mk (dig (Nat.div t 64)) (dig (Nat.mod (Nat.div t 8) 8)) (dig (Nat.mod t 8))
 | false=>.no
noncomputable section
def sel {α:Type} (d:Dig) (x:V8 α):α:=Dig.rec (motive:=fun _=>V8 α→α) V8.a0 V8.a1 V8.a2 V8.a3 V8.a4 V8.a5 V8.a6 V8.a7 d x
def md0 {α:Type} (x:V8 α):(α→α)→V8 α:=V8.rec (motive:=fun _=>(α→α)→V8 α) (fun a0 a1 a2 a3 a4 a5 a6 a7 f=>⟨f a0,a1,a2,a3,a4,a5,a6,a7⟩) x
def md1 {α:Type} (x:V8 α):(α→α)→V8 α:=V8.rec (motive:=fun _=>(α→α)→V8 α) (fun a0 a1 a2 a3 a4 a5 a6 a7 f=>⟨a0,f a1,a2,a3,a4,a5,a6,a7⟩) x
def md2 {α:Type} (x:V8 α):(α→α)→V8 α:=V8.rec (motive:=fun _=>(α→α)→V8 α) (fun a0 a1 a2 a3 a4 a5 a6 a7 f=>⟨a0,a1,f a2,a3,a4,a5,a6,a7⟩) x
def md3 {α:Type} (x:V8 α):(α→α)→V8 α:=V8.rec (motive:=fun _=>(α→α)→V8 α) (fun a0 a1 a2 a3 a4 a5 a6 a7 f=>⟨a0,a1,a2,f a3,a4,a5,a6,a7⟩) x
def md4 {α:Type} (x:V8 α):(α→α)→V8 α:=V8.rec (motive:=fun _=>(α→α)→V8 α) (fun a0 a1 a2 a3 a4 a5 a6 a7 f=>⟨a0,a1,a2,a3,f a4,a5,a6,a7⟩) x
def md5 {α:Type} (x:V8 α):(α→α)→V8 α:=V8.rec (motive:=fun _=>(α→α)→V8 α) (fun a0 a1 a2 a3 a4 a5 a6 a7 f=>⟨a0,a1,a2,a3,a4,f a5,a6,a7⟩) x
def md6 {α:Type} (x:V8 α):(α→α)→V8 α:=V8.rec (motive:=fun _=>(α→α)→V8 α) (fun a0 a1 a2 a3 a4 a5 a6 a7 f=>⟨a0,a1,a2,a3,a4,a5,f a6,a7⟩) x
def md7 {α:Type} (x:V8 α):(α→α)→V8 α:=V8.rec (motive:=fun _=>(α→α)→V8 α) (fun a0 a1 a2 a3 a4 a5 a6 a7 f=>⟨a0,a1,a2,a3,a4,a5,a6,f a7⟩) x
def mdf {α:Type} (d:Dig) (x:V8 α) (f:α→α):V8 α:=Dig.rec (motive:=fun _=>V8 α→(α→α)→V8 α) md0 md1 md2 md3 md4 md5 md6 md7 d x f
def get3 (p:P3) (e:E3):Option AV:=P3.rec (motive:=fun _=>E3→Option AV) (fun _=>none) (fun a b c e=>sel c (sel b (sel a e))) p e
def set3 (p:P3) (e:E3) (v:AV):E3:=P3.rec (motive:=fun _=>E3→AV→E3) (fun e _=>e) (fun a b c e v=>mdf a e (fun x=>mdf b x (fun y=>mdf c y (fun _=>some v)))) p e v
def ev3 (e:E3):Env:=fun t=>get3 (pth t) e
def n1:V8 (Option AV):=⟨none,none,none,none,none,none,none,none⟩
def n2:V8 (V8 (Option AV)):=⟨n1,n1,n1,n1,n1,n1,n1,n1⟩
def nil3:E3:=⟨n2,n2,n2,n2,n2,n2,n2,n2⟩
theorem sel_mdf {α:Type} (d k:Dig) (x:V8 α) (f:α→α):sel k (mdf d x f)=if k=d then f (sel k x) else sel k x:=by
 cases x;cases d<;>cases k<;>rfl
theorem dig_inj:∀ {a b:Nat},a<8→b<8→dig a=dig b→a=b:=by
 intro a b ha hb h
 have ea:a=0∨a=1∨a=2∨a=3∨a=4∨a=5∨a=6∨a=7:=by omega
 have eb:b=0∨b=1∨b=2∨b=3∨b=4∨b=5∨b=6∨b=7:=by omega
 rcases ea with rfl|rfl|rfl|rfl|rfl|rfl|rfl|rfl<;>rcases eb with rfl|rfl|rfl|rfl|rfl|rfl|rfl|rfl<;>first|rfl|(simp[dig] at h;done)
theorem ev3_nil:ev3 nil3=fun _=>none:=by
 funext t
 unfold ev3 get3
 cases pth t with
 | no=>rfl
 | mk a b c=>cases a<;>cases b<;>cases c<;>rfl
theorem ev3_set (e:E3) (d:Nat) (v:AV) (hd:d<512):ev3 (set3 (pth d) e v)=upd (ev3 e) d v:=by
 funext t
 have hdb:Nat.blt d 512=true:=Nat.ble_eq_true_of_le hd
 have pd:pth d=.mk (dig (d / 64)) (dig (d / 8 % 8)) (dig (d % 8)):=by unfold pth;rw[hdb];rfl
 unfold ev3 upd
 cases hb:Nat.blt t 512 with
 | false =>
  have pt:pth t=.no:=by unfold pth;rw[hb]
  have hne:Nat.beq t d=false:=by
   cases hq:Nat.beq t d with
   | false=>rfl
   | true=>have:=Nat.eq_of_beq_eq_true hq;subst this;rw[hdb] at hb;cases hb
  rw[hne]
  show get3 (pth t) _=get3 (pth t) e
  rw[pt];rfl
 | true =>
  have pt:pth t=.mk (dig (t / 64)) (dig (t / 8 % 8)) (dig (t % 8)):=by unfold pth;rw[hb];rfl
  have ht:t<512:=blt_lt hb
  rw[pt,pd]
  show sel (dig (t % 8)) (sel (dig (t / 8 % 8)) (sel (dig (t / 64)) (mdf (dig (d / 64)) e (fun x=>mdf (dig (d / 8 % 8)) x (fun y=>mdf (dig (d % 8)) y (fun _=>some v))))))=_
  cases hq:Nat.beq t d with
  | true =>
   have:=Nat.eq_of_beq_eq_true hq;subst this
   rw[sel_mdf,if_pos rfl,sel_mdf,if_pos rfl,sel_mdf,if_pos rfl]
  | false =>
   have hne:=Nat.ne_of_beq_eq_false hq
   show _=get3 (pth t) e
   rw[pt]
   show _=sel (dig (t % 8)) (sel (dig (t / 8 % 8)) (sel (dig (t / 64)) e))
   rw[sel_mdf]
   split
   ·rename_i h1
    have h1:=dig_inj (by omega) (by omega) h1
    rw[sel_mdf]
    split
    ·rename_i h2
     have h2:=dig_inj (by omega) (by omega) h2
     rw[sel_mdf]
     split
     ·rename_i h3
      have h3:=dig_inj (by omega) (by omega) h3
      omega
     ·rfl
    ·rfl
   ·rfl
/-! values, one way in -/
def onInt {β:Type} (x:AV) (f:IntKind→Int→β) (d:β):β :=
 AV.rec (motive_1:=fun _=>(IntKind→Int→β)→β→β) (motive_2:=fun _=>PUnit) (fun _ _ d=>d) (fun k n f _=>f k n) (fun _ _ d=>d) (fun _ d=>d) (fun _ _ _ d=>d) (fun _ d=>d) (fun _ _ _ _ _ d=>d) (fun _ _ _ _ _ d=>d) (fun _ d=>d) (fun _ _ d=>d) (fun _ _ _ _ _ _ d=>d) (fun _ d=>d) (fun _ _ _ _ d=>d) (fun _ d=>d) (fun _ _ _ d=>d) (fun _ _ _ d=>d) ⟨⟩ (fun _ _ _ _=>⟨⟩) x f d
def onStr {β:Type} (x:AV) (f:List UInt8→β) (d:β):β :=
 AV.rec (motive_1:=fun _=>(List UInt8→β)→β→β) (motive_2:=fun _=>PUnit) (fun _ _ d=>d) (fun _ _ _ d=>d) (fun l f _=>f l) (fun _ d=>d) (fun _ _ _ d=>d) (fun _ d=>d) (fun _ _ _ _ _ d=>d) (fun _ _ _ _ _ d=>d) (fun _ d=>d) (fun _ _ d=>d) (fun _ _ _ _ _ _ d=>d) (fun _ d=>d) (fun _ _ _ _ d=>d) (fun _ d=>d) (fun _ _ _ d=>d) (fun _ _ _ d=>d) ⟨⟩ (fun _ _ _ _=>⟨⟩) x f d
def onBool {β:Type} (x:AV) (t f d:β):β :=
 AV.rec (motive_1:=fun _=>β→β→β→β) (motive_2:=fun _=>PUnit) (fun b t f _=>Bool.rec f t b) (fun _ _ _ _ d=>d) (fun _ _ _ d=>d) (fun _ _ d=>d) (fun _ _ _ _ d=>d) (fun _ _ d=>d) (fun _ _ _ _ _ _ d=>d) (fun _ _ _ _ _ _ d=>d) (fun _ _ d=>d) (fun _ _ _ d=>d) (fun _ _ _ _ _ _ _ d=>d) (fun _ _ d=>d) (fun _ _ _ _ _ d=>d) (fun _ _ d=>d) (fun _ _ _ _ d=>d) (fun _ _ _ _ d=>d) ⟨⟩ (fun _ _ _ _=>⟨⟩) x t f d
def onPtr {β:Type} (x:AV) (f:Nat→Nat→β) (d:β):β :=
 AV.rec (motive_1:=fun _=>(Nat→Nat→β)→β→β) (motive_2:=fun _=>PUnit) (fun _ _ d=>d) (fun _ _ _ d=>d) (fun _ _ d=>d) (fun _ d=>d) (fun b o f _=>f b o) (fun _ d=>d) (fun _ _ _ _ _ d=>d) (fun _ _ _ _ _ d=>d) (fun _ d=>d) (fun _ _ d=>d) (fun _ _ _ _ _ _ d=>d) (fun _ d=>d) (fun _ _ _ _ d=>d) (fun _ d=>d) (fun _ _ _ d=>d) (fun _ _ _ d=>d) ⟨⟩ (fun _ _ _ _=>⟨⟩) x f d
def onSl {β:Type} (x:AV) (f:Nat→Nat→Nat→β) (d:β):β :=
 AV.rec (motive_1:=fun _=>(Nat→Nat→Nat→β)→β→β) (motive_2:=fun _=>PUnit) (fun _ _ d=>d) (fun _ _ _ d=>d) (fun _ _ d=>d) (fun _ d=>d) (fun _ _ _ d=>d) (fun _ d=>d) (fun b o n _ f _=>f b o n) (fun b o n _ f _=>f b o n) (fun _ d=>d) (fun _ _ d=>d) (fun _ _ _ _ _ _ d=>d) (fun _ d=>d) (fun _ _ _ _ d=>d) (fun _ d=>d) (fun _ _ _ d=>d) (fun _ _ _ d=>d) ⟨⟩ (fun _ _ _ _=>⟨⟩) x f d
def onTup {β:Type} (x:AV) (f:List AV→β) (d:β):β :=
 AV.rec (motive_1:=fun _=>(List AV→β)→β→β) (motive_2:=fun _=>PUnit) (fun _ _ d=>d) (fun _ _ _ d=>d) (fun _ _ d=>d) (fun _ d=>d) (fun _ _ _ d=>d) (fun _ d=>d) (fun _ _ _ _ _ d=>d) (fun _ _ _ _ _ d=>d) (fun _ d=>d) (fun _ _ d=>d) (fun _ _ _ _ _ _ d=>d) (fun _ d=>d) (fun _ _ _ _ d=>d) (fun _ d=>d) (fun _ _ _ d=>d) (fun l _ f _=>f l) ⟨⟩ (fun _ _ _ _=>⟨⟩) x f d
def onSome {α β:Type} (x:Option α) (f:α→β) (d:β):β:=Option.rec (motive:=fun _=>(α→β)→β→β) (fun _ d=>d) (fun a f _=>f a) x f d
/-! ints -/
def kN (k:IntKind):Nat:=IntKind.rec 0 1 2 3 4 5 6 7 k
def kEq (a b:IntKind):Bool:=Nat.beq (kN a) (kN b)
theorem kEq_eq (a b:IntKind):kEq a b=decide (a=b):=by cases a<;>cases b<;>rfl
def onNat2 {β:Type} (a b:Int) (f:Nat→Nat→β) (d:β):β :=
 Int.rec (motive:=fun _=>Int→(Nat→Nat→β)→β→β) (fun m b f d=>Int.rec (motive:=fun _=>Nat→(Nat→Nat→β)→β→β) (fun n m f _=>f m n) (fun _ _ _ d=>d) b m f d) (fun _ _ _ d=>d) a b f d
theorem onNat2_spec {β:Type} (a b:Int) (f:Nat→Nat→β) (d r:β) (h1:∀ m n:Nat,a=m→b=n→f m n=r) (h2:d=r):onNat2 a b f d=r:=by
 cases a with
 | ofNat m=>cases b with
  | ofNat n=>exact h1 m n rfl rfl
  | negSucc n=>exact h2
 | negSucc m=>exact h2
def ltI (a b:Int):Bool:=onNat2 a b (fun m n=>Nat.blt m n) (decide (a<b))
def leI (a b:Int):Bool:=onNat2 a b (fun m n=>Nat.ble m n) (decide (a≤b))
def eqI (a b:Int):Bool:=onNat2 a b (fun m n=>Nat.beq m n) (a==b)
theorem blt_dec (m n:Nat):Nat.blt m n=decide (m<n):=by
 rw[Bool.eq_iff_iff,decide_eq_true_iff];exact⟨blt_lt,fun h=>Nat.ble_eq_true_of_le h⟩
theorem ble_dec (m n:Nat):Nat.ble m n=decide (m≤n):=by
 rw[Bool.eq_iff_iff,decide_eq_true_iff];exact⟨Nat.le_of_ble_eq_true,Nat.ble_eq_true_of_le⟩
theorem beq_dec (m n:Nat):Nat.beq m n=decide (m=n):=by
 rw[Bool.eq_iff_iff,decide_eq_true_iff];exact⟨Nat.eq_of_beq_eq_true,fun h=>by subst h;exact Nat.beq_refl m⟩
theorem ltI_eq (a b:Int):ltI a b=decide (a<b):=onNat2_spec a b _ _ _ (fun m n h1 h2=>by subst h1 h2;rw[blt_dec];simp only[Int.ofNat_lt]) rfl
theorem leI_eq (a b:Int):leI a b=decide (a≤b):=onNat2_spec a b _ _ _ (fun m n h1 h2=>by subst h1 h2;rw[ble_dec];simp only[Int.ofNat_le]) rfl
theorem eqI_eq (a b:Int):eqI a b=(a==b):=onNat2_spec a b _ _ _ (fun m n h1 h2=>by
 subst h1 h2;rw[beq_dec,Bool.eq_iff_iff,decide_eq_true_iff,beq_iff_eq];exact Int.ofNat_inj.symm) rfl
def wrapN (k:IntKind) (n:Nat) (d:Int):Int:=Bool.rec d (Int.ofNat n) (Nat.beq (kN k) 3&&Nat.blt n 9223372036854775808)
theorem wrapN_eq (k:IntKind) (n:Nat):wrapN k n (k.wrap n)=k.wrap n:=by
 unfold wrapN
 cases h:(Nat.beq (kN k) 3&&Nat.blt n 9223372036854775808) with
 | false=>rfl
 | true =>
  rw[Bool.and_eq_true] at h
  have h1:=Nat.eq_of_beq_eq_true h.1
  have h2:=blt_lt h.2
  have hk:k=.i64:=by cases k<;>first|rfl|(exfalso;revert h1;decide)
  subst hk
  show (n:Int)=_
  have p:(2:Int) ^ 64=18446744073709551616:=by decide
  have q:(2:Int) ^ (64-1)=9223372036854775808:=by decide
  have e:(n:Int) % 18446744073709551616=n:=Int.emod_eq_of_lt (by omega) (by omega)
  simp only[IntKind.wrap,IntKind.bits,IntKind.signed,Bool.true_and,p,q,e]
  rw[if_neg (by simp;omega)]
def addI (k:IntKind) (a b:Int):Int:=onNat2 a b (fun m n=>wrapN k (Nat.add m n) (k.wrap (a+b))) (k.wrap (a+b))
theorem addI_eq (k:IntKind) (a b:Int):addI k a b=k.wrap (a+b):=onNat2_spec a b _ _ _ (fun m n h1 h2=>by
 subst h1 h2
 have e:((m:Int)+(n:Int))=((Nat.add m n:Nat):Int):=(Int.natCast_add m n).symm
 rw[e];exact wrapN_eq k (Nat.add m n)) rfl
def subI (k:IntKind) (a b:Int):Int:=onNat2 a b (fun m n=>Bool.rec (k.wrap (a-b)) (wrapN k (Nat.sub m n) (k.wrap (a-b))) (Nat.ble n m)) (k.wrap (a-b))
theorem subI_eq (k:IntKind) (a b:Int):subI k a b=k.wrap (a-b):=onNat2_spec a b _ _ _ (fun m n h1 h2=>by
 subst h1 h2
 cases h:Nat.ble n m with
 | false=>rfl
 | true =>
  have:=Nat.le_of_ble_eq_true h
  have e:((m:Int)-(n:Int))=((Nat.sub m n:Nat):Int):=(Int.ofNat_sub this).symm
  show wrapN k (Nat.sub m n) (k.wrap ((m:Int)-n))=_
  rw[e];exact wrapN_eq k (Nat.sub m n)) rfl
/-! texts -/
def eqS (a:List UInt8):List UInt8→Bool :=
 List.rec (motive:=fun _=>List UInt8→Bool) (fun b=>List.rec (motive:=fun _=>Bool) true (fun _ _ _=>false) b)
  (fun x _ ih b=>List.rec (motive:=fun _=>UInt8→(List UInt8→Bool)→Bool) (fun _ _=>false) (fun y l _ x ih=>Bool.rec false (ih l) (Nat.beq x.toNat y.toNat)) b x ih) a
theorem eqS_eq:∀ a b:List UInt8,eqS a b=(a==b)
 | [],[]=>rfl
 | [],_::_=>rfl
 | _::_,[]=>rfl
 | x::a,y::b=>by
  have e:eqS (x::a) (y::b)=Bool.rec (motive:=fun _=>Bool) false (eqS a b) (Nat.beq x.toNat y.toNat):=rfl
  rw[e,eqS_eq a b,List.cons_beq_cons]
  have hx:Nat.beq x.toNat y.toNat=(x==y):=by
   rw[beq_dec,Bool.eq_iff_iff,decide_eq_true_iff,beq_iff_eq]
   exact⟨fun h=>UInt8.toNat_inj.1 h,fun h=>by rw[h]⟩
  rw[hx]
  cases (x==y)<;>rfl
end
end Go.Ev
