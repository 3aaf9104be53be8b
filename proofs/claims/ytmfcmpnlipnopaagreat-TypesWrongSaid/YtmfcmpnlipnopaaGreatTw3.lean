/- Parts of this proof, one behind the other: EvA. -/
import GoSem.Step
set_option maxRecDepth 1000000
set_option maxHeartbeats 40000000
namespace Go.Ev
inductive AV where
 | bool (b:Bool)
 | int (k:IntKind) (n:Int)
 | str (l:List UInt8)
 | nilp
 | ptr (b o:Nat)
 | nils
 | sl (b o len cap:Nat)
 | su (b o len sz:Nat)
 | nilm
 | map (b:Nat)
 | fn (f:Fn) (first cap:List AV)
 | nilf
 | iface (t:TypeId) (v:AV)
 | nili
 | agg (l:List AV)
 | tup (l:List AV)
 deriving Inhabited
def AV.cells:AV→List AV
 | .agg l=>l
 | v=>[v]
def AV.one:AV→Bool
 | .agg _=>false
 | .tup _=>false
 | _=>true
mutual
def ofV:Value→Option AV
 | .bool b=>some (.bool b)
 | .int k n=>some (.int k n)
 | .string s=>some (.str s.data.toList)
 | .pointer none=>some .nilp
 | .slice none 0 0=>some .nils
 | .map none=>some .nilm
 | .nilFunc=>some .nilf
 | .nilIface=>some .nili
 | .iface t v=>match ofV v with|some v=>some (.iface t v)|none=>none
 | .func f ⟨a⟩ ⟨b⟩=>match ofVs a,ofVs b with|some a,some b=>some (.fn f a b)|_,_=>none
 | .agg ⟨l⟩=>match ofVs l with|some l=>some (.agg l)|none=>none
 | .tuple ⟨l⟩=>match ofVs l with|some l=>some (.tup l)|none=>none
 | _=>none
def ofVs:List Value→Option (List AV)
 | []=>some []
 | v::l=>match ofV v,ofVs l with|some v,some l=>some (v::l)|_,_=>none
end
inductive Tr (α:Type) where
 | nil
 | nd (l:Tr α) (v:Option α) (r:Tr α)
 deriving Inhabited
namespace Tr
noncomputable def get {α:Type} (t:Tr α):Nat→Option α :=
 Tr.rec (motive:=fun _=>Nat→Option α) (fun _=>none)
  (fun _ v _ gl gr n=>Nat.rec (motive:=fun _=>Option α) v (fun m _=>Bool.rec (gr (Nat.div m 2)) (gl (Nat.div m 2)) (Nat.beq (Nat.mod m 2) 0)) n) t
noncomputable def sgl {α:Type} (d:Nat):Nat→Option α→Tr α :=
 Nat.rec (motive:=fun _=>Nat→Option α→Tr α) (fun _ _=>.nil)
  (fun _ ih n x=>Nat.rec (motive:=fun _=>Tr α) (.nd .nil x .nil) (fun m _=>Bool.rec (.nd .nil none (ih (Nat.div m 2) x)) (.nd (ih (Nat.div m 2) x) none .nil) (Nat.beq (Nat.mod m 2) 0)) n) d
noncomputable def set {α:Type} (t:Tr α):Nat→Option α→Tr α :=
 Tr.rec (motive:=fun _=>Nat→Option α→Tr α) (fun n x=>sgl 64 n x)
  (fun l v r sl sr n x=>Nat.rec (motive:=fun _=>Tr α) (.nd l x r) (fun m _=>Bool.rec (.nd l v (sr (Nat.div m 2) x)) (.nd (sl (Nat.div m 2) x) v r) (Nat.beq (Nat.mod m 2) 0)) n) t
end Tr
structure AEntry where
 key:AV
 val:AV
 born:Nat
 deriving Inhabited
inductive Blk where
 | cells (e:TypeId) (l:List AV)
 | map (l:List AEntry) (clock:Nat)
 | striter (s:List UInt8) (pos:Nat)
 | mapiter (m:Option Nat) (since:Nat) (seen:List Nat) (stepped:Nat)
 deriving Inhabited
structure Acc where
 w:Bool
 b:Nat
 o:Nat
 n:Nat
structure St where
 h:Tr Blk
 n:Nat
 lg:List Acc
def St.rd (s:St) (b o n:Nat):St:=⟨s.h,s.n,⟨false,b,o,n⟩::s.lg⟩
noncomputable def St.put (s:St) (b o n:Nat) (x:Option Blk):St:=⟨s.h.set b x,s.n,⟨true,b,o,n⟩::s.lg⟩
noncomputable def St.new (s:St) (x:Blk):St:=⟨s.h.set s.n (some x),Nat.succ s.n,s.lg⟩
inductive R (α:Type) where
 | fail
 | ok (a:α) (s:St)
 deriving Inhabited
abbrev Env:=Nat→Option AV
def upd (env:Env) (d:Nat) (v:AV):Env:=fun t=>match Nat.beq t d with|true=>some v|false=>env t
abbrev CallF:=FuncId→List AV→St→R AV
abbrev Branch:=Program→CallF→Env→St→R AV
noncomputable section
def R.of (s:St) (x:Option AV):R AV:=Option.rec .fail (fun v=>.ok v s) x
def R.bind {α β:Type} (x:R α) (f:α→St→R β):R β:=R.rec .fail f x
def tdesc (P:Program) (t:TypeId):Option TypeDesc:=P.underlying t
def tsize (P:Program) (t:TypeId):Option Nat:=match P.info? t with|some i=>some i.size|none=>none
def tshape (P:Program) (t:TypeId):Option (Bool×Nat):=match P.underlying t,P.info? t with
 | some d,some i=>some ((match d with | .struct _=>true | .array _ _=>true|_=>false),i.size)
 | _,_=>none
def tzero (P:Program) (t:TypeId):Option AV:=match P.info? t with|some i=>(match i.zero with|some z=>ofV z|none=>none)|none=>none
def tfields (P:Program) (t:TypeId):Option (Array Field):=match P.underlying t with|some (.struct fs)=>some fs|_=>none
def tfield (P:Program) (t:TypeId) (i:Nat):Option Field:=match P.underlying t with|some (.struct fs)=>fs[i]?|_=>none
def tfplace (P:Program) (t:TypeId) (i:Nat):Option Nat:=match tfield P t i with
 | some f=>match tsize P f.type with|some 0=>none|some _=>some f.offset|none=>none
 | none=>none
def tel (P:Program) (t:TypeId):Option (TypeId×Nat):=match P.underlying t with
 | some (.slice e)=>match P.info? e,tzero P e with
  | some i,some z=>match Nat.blt 0 i.size,Nat.beq z.cells.length i.size,Nat.ble i.bytes 1048576 with
   | true,true,true=>some (e,i.size)
   | _,_,_=>none
  | _,_=>none
 | _=>none
def placesOf (P:Program):List Field→Option (List (Nat×Nat))
 | []=>some []
 | f::l=>match tsize P f.type,placesOf P l with|some n,some r=>some ((f.offset,n)::r)|_,_=>none
def tplaces (P:Program) (t:TypeId):Option (List (Nat×Nat)):=match P.underlying t with|some (.struct fs)=>placesOf P fs.toList|_=>none
def opd (x:Operand) (env:Env):Option AV :=
 Operand.rec (motive:=fun _=>Env→Option AV) (fun t env=>env t) (fun v _=>ofV v) (fun _ _=>none) (fun f _=>some (.fn (.func f) [] [])) x env
def opds (env:Env):List Operand→Option (List AV)
 | []=>some []
 | x::l=>match opd x env,opds env l with|some v,some l=>some (v::l)|_,_=>none
def cut (l:List AV) (o n:Nat):Option (List AV) :=
 match Nat.beq ((l.drop o).take n).length n with|true=>some ((l.drop o).take n)|false=>none
def part (P:Program) (t:TypeId) (cs:List AV) (o:Nat):Option AV:=match tshape P t with
 | some (true,n)=>(match cut cs o n with|some l=>some (.agg l)|none=>none)
 | some (false,_)=>cs[o]?
 | none=>none
def over:List AV→Nat→List AV→Option (List AV)
 | l,0,[]=>some l
 | [],0,_::_=>none
 | _::l,0,v::vs=>match over l 0 vs with|some r=>some (v::r)|none=>none
 | [],_+1,_=>none
 | x::l,o+1,vs=>match over l o vs with|some r=>some (x::r)|none=>none
def fills (place:Nat→Option (Nat×Nat)):List AV→List (Nat×AV)→Option (List AV)
 | l,[]=>some l
 | l,(i,v)::r=>match place i with
  | some (o,n)=>match Nat.beq v.cells.length n with
   | true=>match over l o v.cells with|some l=>fills place l r|none=>none
   | false=>none
  | none=>none
def rep (z:List AV):Nat→List AV
 | 0=>[]
 | n+1=>z++rep z n
def asNat (v:AV):Option Nat:=match v with | .int _ (.ofNat n)=>some n|_=>none
def onat (env:Env) (d:Nat):Option Operand→Option Nat
 | none=>some d
 | some x=>match opd x env with|some v=>asNat v|none=>none
def sbounds (env:Env) (len cap:Nat) (lo hi mx:Option Operand):Option (Nat×Nat×Nat) :=
 match onat env cap mx,onat env len hi,onat env 0 lo with
 | some m,some h,some l=>match Nat.ble m cap,Nat.ble h m,Nat.ble l h,(match hi,mx with|none,some _=>false|_,_=>true) with
  | true,true,true,true=>some (l,h,m)
  | _,_,_,_=>none
 | _,_,_=>none
def keq:AV→AV→Option Bool
 | .bool a,.bool b=>some (a==b)
 | .int k a,.int k' b=>if k=k' then some (a==b) else none
 | .str a,.str b=>some (a==b)
 | _,_=>none
def kfit (P:Program) (t:TypeId) (k:AV):Bool:=match P.underlying t,k with
 | some .bool,.bool _=>true
 | some (.int _),.int _ _=>true
 | some .string,.str _=>true
 | _,_=>false
def teqF (P:Program) (f:TypeId→AV→AV→Option Bool) (xs ys:List AV):List Field→Option Bool
 | []=>some true
 | x :: l => match x.name == "_" with
  | true=>teqF P f xs ys l
  | false=>match part P x.type xs x.offset,part P x.type ys x.offset with
   | some a,some b=>(match f x.type a b with|some true=>teqF P f xs ys l|some false=>some false|none=>none)
   | _,_=>none
def teq (P:Program):Nat→TypeId→AV→AV→Option Bool
 | 0,_,_,_=>none
 | d+1,t,x,y=>match P.underlying t,x,y with
  | some .bool,.bool a,.bool b=>some (a==b)
  | some (.int _),.int k a,.int k' b=>if k=k' then some (a==b) else none
  | some .string,.str a,.str b=>some (a==b)
  | some (.pointer _),.nilp,.nilp=>some true
  | some (.pointer _),.nilp,.ptr _ _=>some false
  | some (.pointer _),.ptr _ _,.nilp=>some false
  | some (.pointer e),.ptr a b,.ptr c d=>match Nat.beq a c,tsize P e with
   | true,some (_+1)=>some (Nat.beq b d)
   | _,_=>none
  | some (.slice _),.nils,.nils=>some true
  | some (.slice _),.nils,.sl _ _ _ _=>some false
  | some (.slice _),.sl _ _ _ _,.nils=>some false
  | some (.slice _),.nils,.su _ _ _ _=>some false
  | some (.slice _),.su _ _ _ _,.nils=>some false
  | some (.map _ _),.nilm,.nilm=>some true
  | some (.map _ _),.nilm,.map _=>some false
  | some (.map _ _),.map _,.nilm=>some false
  | some (.func _ _ _),.nilf,.nilf=>some true
  | some (.func _ _ _),.nilf,.fn _ _ _=>some false
  | some (.func _ _ _),.fn _ _ _,.nilf=>some false
  | some (.interface _),.nili,.nili=>some true
  | some (.interface _),.nili,.iface _ _=>some false
  | some (.interface _),.iface _ _,.nili=>some false
  | some (.struct fs),.agg a,.agg b=>(match P.stoodInHeld t with|false=>teqF P (teq P d) a b fs.toList|true=>none)
  | _,_,_=>none
def onInts (f:IntKind→Int→Int→Option AV) (x y:AV):Option AV:=match x,y with
 | .int k a,.int k' b=>if k=k' then f k a b else none
 | _,_=>none
def onStrs (f:List UInt8→List UInt8→Option AV) (x y:AV):Option AV:=match x,y with
 | .str a,.str b=>f a b
 | _,_=>none
def both (f:IntKind→Int→Int→Option AV) (g:List UInt8→List UInt8→Option AV) (x y:AV):Option AV:=match x,y with
 | .int k a,.int k' b=>if k=k' then f k a b else none
 | .str a,.str b=>g a b
 | _,_=>none
def bAdd:AV→AV→Option AV:=both (fun k a b=>some (.int k (k.wrap (a+b)))) (fun a b=>match Nat.ble (a.length+b.length) 9223372036854775807 with|true=>some (.str (a++b))|false=>none)
def bSub:AV→AV→Option AV:=onInts fun k a b=>some (.int k (k.wrap (a-b)))
def bMul:AV→AV→Option AV:=onInts fun k a b=>some (.int k (k.wrap (a*b)))
def bQuo:AV→AV→Option AV:=onInts fun k a b=>if b=0 then none else some (.int k (k.wrap (a.tdiv b)))
def bRem:AV→AV→Option AV:=onInts fun k a b=>if b=0 then none else some (.int k (a.tmod b))
def bits (op:BinOp):AV→AV→Option AV:=onInts fun k a b=>match Op.intBits op k a b with | .pure (.int k n)=>some (.int k n)|_=>none
def bShl (x y:AV):Option AV:=match x,y with
 | .int k a,.int _ (.ofNat n)=>some (.int k (k.wrap (a*2 ^ (min n k.bits))))
 | _,_=>none
def bShr (x y:AV):Option AV:=match x,y with
 | .int k a,.int _ (.ofNat n)=>some (.int k (a.fdiv (2 ^ (min n k.bits))))
 | _,_=>none
def teqG (P:Program) (t:TypeId) (c:Bool) (x y:AV):Option Bool:=match x,y with
 | .nili,.nili=>(match c with|true=>teq P 5 t .nili .nili|false=>none)
 | .agg a,.agg b=>(match P.eqGuardType P.depth t with|false=>teq P 5 t (.agg a) (.agg b)|true=>none)
 | x,y=>teq P 5 t x y
def bEql (P:Program) (t:TypeId) (c:Bool) (x y:AV):Option AV:=match x,y with
 | .int k a,.int k' b=>if k=k' then some (.bool (a==b)) else none
 | .str a,.str b=>some (.bool (a==b))
 | x,y=>match teqG P t c x y with|some b=>some (.bool b)|none=>none
def bNeq (P:Program) (t:TypeId) (c:Bool) (x y:AV):Option AV:=match x,y with
 | .int k a,.int k' b=>if k=k' then some (.bool (a !=b)) else none
 | .str a,.str b=>some (.bool (!(a==b)))
 | x,y=>match teqG P t c x y with|some b=>some (.bool (!b))|none=>none
def bLss:AV→AV→Option AV:=both (fun _ a b=>some (.bool (a<b))) (fun a b=>some (.bool (Op.bytesLess a b)))
def bLeq:AV→AV→Option AV:=both (fun _ a b=>some (.bool (a≤b))) (fun a b=>some (.bool (Op.bytesLess a b||a==b)))
def bGtr:AV→AV→Option AV:=both (fun _ a b=>some (.bool (a > b))) (fun a b=>some (.bool (!(Op.bytesLess a b||a==b))))
def bGeq:AV→AV→Option AV:=both (fun _ a b=>some (.bool (a≥b))) (fun a b=>some (.bool (!Op.bytesLess a b)))
abbrev BinF:=Program→TypeId→Bool→AV→AV→Option AV
def kAdd:BinF:=fun _ _ _=>bAdd
def kSub:BinF:=fun _ _ _=>bSub
def kMul:BinF:=fun _ _ _=>bMul
def kQuo:BinF:=fun _ _ _=>bQuo
def kRem:BinF:=fun _ _ _=>bRem
def kAnd:BinF:=fun _ _ _=>bits .and
def kOr:BinF:=fun _ _ _=>bits .or
def kXor:BinF:=fun _ _ _=>bits .xor
def kShl:BinF:=fun _ _ _=>bShl
def kShr:BinF:=fun _ _ _=>bShr
def kAndNot:BinF:=fun _ _ _=>bits .andNot
def kLss:BinF:=fun _ _ _=>bLss
def kLeq:BinF:=fun _ _ _=>bLeq
def kGtr:BinF:=fun _ _ _=>bGtr
def kGeq:BinF:=fun _ _ _=>bGeq
def evBin (op:BinOp):BinF :=
 BinOp.rec (motive:=fun _=>BinF) kAdd kSub kMul kQuo kRem kAnd kOr kXor kShl kShr kAndNot bEql bNeq kLss kLeq kGtr kGeq op
def isC:Operand→Bool
 | .const _=>true
 | _=>false
def evUn (op:UnOp) (x:AV):Option AV:=match op,x with
 | .neg,.int k n=>some (.int k (k.wrap (0-n)))
 | .xor,.int k n=>match Op.intBits .xor k (if k.signed then -1 else k.max) n with | .pure (.int k n)=>some (.int k n)|_=>none
 | .not,.bool b=>some (.bool (!b))
 | _,_=>none
def loadC (P:Program) (s:St) (t:TypeId) (b o:Nat):R AV:=match s.h.get b,tshape P t with
 | some (.cells _ l),some (true,n)=>(match cut l o n with|some r=>.ok (.agg r) (s.rd b o n)|none=>.fail)
 | some (.cells _ l),some (false,_)=>(match l[o]? with|some v=>.ok v (s.rd b o 1)|none=>.fail)
 | _,_=>.fail
def storeC (s:St) (b o:Nat) (vs:List AV) (r:AV):R AV:=match s.h.get b with
 | some (.cells e l)=>match vs.all AV.one,over l o vs with
  | true,some l'=>.ok r (s.put b o vs.length (some (.cells e l')))
  | _,_=>.fail
 | _=>.fail
def findE (k:AV):List AEntry→Nat→Option (Option (Nat×AV))
 | [],_=>some none
 | e::l,i=>match keq k e.key with|some true=>some (some (i,e.val))|some false=>findE k l (i+1)|none=>none
def modE:List AEntry→Nat→AV→List AEntry
 | [],_,_=>[]
 | e::l,0,v=>⟨e.key,v,e.born⟩::l
 | e::l,i+1,v=>e::modE l i v
def bytesOf:List AV→Option (List UInt8)
 | []=>some []
 | .int .u8 (.ofNat n)::l=>match bytesOf l with|some r=>some (UInt8.ofNat n::r)|none=>none
 | _::_=>none
def byteCells (l:List UInt8):List AV:=l.map fun c=>.int .u8 (.ofNat c.toNat)
def convBytes (s:St) (b o n:Nat):R AV:=match s.h.get b with
 | some (.cells _ l)=>match cut l o n with
  | some l=>match bytesOf l with|some r=>.ok (.str r) (s.rd b o n)|none=>.fail
  | none=>.fail
 | _=>.fail
def evConv (P:Program) (s:St) (src dst:TypeId) (x:AV):R AV:=match tdesc P src,tdesc P dst with
 | some _,some d=>match d,x with
  | .int k,.int _ n=>.ok (.int k (k.wrap n)) s
  | .string,.str l=>.ok (.str l) s
  | .slice e,.str l=>match tdesc P e,tsize P e,Nat.ble l.length 1048576 with
   | some (.int .u8),some 1,true=>.ok (.su s.n 0 l.length 1) (s.new (.cells e (byteCells l)))
   | _,_,_=>.fail
  | _,_=>.fail
 | _,_=>.fail
def sliceLen:AV→Option Nat
 | .nils=>some 0
 | .sl _ _ n _=>some n
 | .su _ _ n _=>some n
 | .str l=>some l.length
 | _=>none
def sliceCells (s:St) (sz n:Nat):AV→Option (List AV×St)
 | .nils=>some ([],s)
 | .sl b o _ _=>match s.h.get b with
  | some (.cells _ l)=>(match cut l o (n*sz) with|some l=>some (l,s.rd b o (n*sz))|none=>none)
  | _=>none
 | .su b o _ _=>match s.h.get b with
  | some (.cells _ l)=>(match cut l o (n*sz) with|some l=>some (l,s.rd b o (n*sz))|none=>none)
  | _=>none
 | .str l=>some (byteCells (l.take n),s)
 | _=>none
def big:Nat:=18446744073709551616
def elemIs (s:St) (b:Nat) (e:TypeId):Bool:=match s.h.get b with
 | some (.cells e0 _)=>Nat.beq e0 e
 | _=>false
def evAppend (P:Program) (s:St) (ts:List TypeId) (base x:AV):R AV:=match ts with
 | [st,xt]=>match tel P st,sliceLen base,sliceLen x,tdesc P xt with
  | some (e,z),some n,some m,some d=>match (match d with | .slice _=>true | .string=>true|_=>false),Nat.ble (n+m) 1048576,sliceCells s z m x with
   | true,true,some (new,s)=>match new.all AV.one,Nat.beq new.length (m*z),base with
    | true,true,.sl b o _ c=>match Nat.ble (n+m) c with
     | true=>storeC s b (o+n*z) new (.sl b o (n+m) c)
     | false=>match sliceCells s z n base with
      | some (old,s)=>.ok (.su s.n 0 (n+m) z) (s.new (.cells e (old++new)))
      | none=>.fail
    | true,true,.nils=>match m with
     | 0=>.ok .nils s
     | _=>.ok (.su s.n 0 (n+m) z) (s.new (.cells e new))
    | true,true,.su b _ _ y=>match m with
     | 0=>.ok base s
     | _=>match Nat.beq y z&&Nat.blt 0 n,elemIs s b e,sliceCells s z n base with
      | true,true,some (old,s)=>.ok (.su s.n 0 (n+m) z) ((s.put b 0 big none).new (.cells e (old++new)))
      | _,_,_=>.fail
    | _,_,_=>.fail
   | _,_,_=>.fail
  | _,_,_,_=>.fail
 | _=>.fail
def evCopy (P:Program) (s:St) (ts:List TypeId) (dst x:AV):R AV:=match ts with
 | st::_=>match tel P st,sliceLen dst,sliceLen x with
  | some (_,z),some n,some m=>match sliceCells s z (min m n) x with
   | some (new,s)=>match dst with
    | .sl b o _ _=>storeC s b o new (.int .i64 (.ofNat (min m n)))
    | .su b o _ _=>storeC s b o new (.int .i64 (.ofNat (min m n)))
    | .nils=>.ok (.int .i64 0) s
    | _=>.fail
   | none=>.fail
  | _,_,_=>.fail
 | _=>.fail
def minsF (k:IntKind) (a:Int):List AV→Option (IntKind×Int)
 | []=>some (k,a)
 | .int _ b::l=>minsF k (if b<a then b else a) l
 | _=>none
def mins:List AV→Option (IntKind×Int)
 | .int k a::l=>minsF k a l
 | _=>none
def maxsF (k:IntKind) (a:Int):List AV→Option (IntKind×Int)
 | []=>some (k,a)
 | .int _ b::l=>maxsF k (if b > a then b else a) l
 | _=>none
def maxs:List AV→Option (IntKind×Int)
 | .int k a::l=>maxsF k a l
 | _=>none
def evLen (P:Program) (s:St) (ts:List TypeId) (x:AV):R AV:=match ts with
 | t::_=>match tdesc P t,x with
  | some .string,.str l=>.ok (.int .i64 (.ofNat l.length)) s
  | some (.slice _),.nils=>.ok (.int .i64 0) s
  | some (.slice _),.sl _ _ n _=>.ok (.int .i64 (.ofNat n)) s
  | some (.slice _),.su _ _ n _=>.ok (.int .i64 (.ofNat n)) s
  | some (.map _ _),.nilm=>.ok (.int .i64 0) s
  | some (.map _ _),.map m=>match s.h.get m with
   | some (.map l _)=>.ok (.int .i64 (.ofNat l.length)) (s.rd m 0 1)
   | _=>.fail
  | _,_=>.fail
 | _=>.fail
def evDelete (P:Program) (s:St) (ts:List TypeId) (x k:AV):R AV:=match ts with
 | t :: _=>match tdesc P t with
  | some (.map kt _)=>match kfit P kt k,x with
   | true,.nilm=>.ok (.tup []) s
   | true,.map m=>match s.h.get m with
    | some (.map l c)=>match findE k l 0 with
     | some (some (i,_))=>.ok (.tup []) (s.put m 0 1 (some (.map (l.eraseIdx i) c)))
     | some none=>.ok (.tup []) (s.put m 0 1 (some (.map l c)))
     | none=>.fail
    | _=>.fail
   | _,_=>.fail
  | _=>.fail
 | _=>.fail
def evClear (P:Program) (s:St) (ts:List TypeId) (x:AV):R AV:=match ts with
 | t::_=>match tdesc P t,x with
  | some (.slice _),.nils=>.ok (.tup []) s
  | some (.map _ _),.nilm=>.ok (.tup []) s
  | some (.map _ _),.map m=>match s.h.get m with
   | some (.map _ c)=>.ok (.tup []) (s.put m 0 1 (some (.map [] c)))
   | _=>.fail
  | some (.slice e),.sl b o n _=>match tzero P e with
   | some z=>storeC s b o (rep z.cells n) (.tup [])
   | none=>.fail
  | some (.slice e),.su b o n _=>match tzero P e with
   | some z=>storeC s b o (rep z.cells n) (.tup [])
   | none=>.fail
  | _,_=>.fail
 | _=>.fail
def evBuiltin (P:Program) (s:St) (b:Builtin) (ts:List TypeId) (args:List AV):R AV:=match b with
 | .len=>match args with|[x]=>evLen P s ts x|_=>.fail
 | .min=>match mins args with|some (k,n)=>.ok (.int k n) s|none=>.fail
 | .max=>match maxs args with|some (k,n)=>.ok (.int k n) s|none=>.fail
 | .append=>match args with|[x,y]=>evAppend P s ts x y|_=>.fail
 | _=>.fail
def invokeV (call:CallF) (f:Fn) (args cap:List AV) (s:St):R AV:=match f with
 | .func g=>call g (args++cap) s
 | _=>.fail
def eMove (x:Operand):Branch:=fun _ _ env s=>R.of s (opd x env)
def ePick (c a b:Operand):Branch:=fun _ _ env s=>match opd c env with
 | some (.bool true)=>R.of s (opd a env)
 | some (.bool false)=>R.of s (opd b env)
 | _=>.fail
def eAlloc (e:TypeId):Branch:=fun P _ _ s=>match tzero P e with
 | some z=>.ok (.ptr s.n 0) (s.new (.cells e z.cells))
 | none=>.fail
def eBox (e:TypeId) (x:Operand):Branch:=fun _ _ env s=>match opd x env with
 | some v=>.ok (.ptr s.n 0) (s.new (.cells e v.cells))
 | none=>.fail
def eBuild (t:TypeId) (parts:Array (Nat×Operand)):Branch:=fun P _ env s=>match opds env (parts.toList.map (·.2)),tdesc P t,tzero P t with
 | some vs,some (.struct _),some z=>(match tplaces P t with
  | some ps=>(match fills (fun i=>ps[i]?) z.cells ((parts.toList.map (·.1)).zip vs) with|some l=>.ok (.agg l) s|none=>.fail)
  | none=>.fail)
 | some vs,some (.array _ e),some z=>(match tsize P e with
  | some n=>(match fills (fun i=>some (i*n,n)) z.cells ((parts.toList.map (·.1)).zip vs) with|some l=>.ok (.agg l) s|none=>.fail)
  | none=>.fail)
 | _,_,_=>.fail
def eBuildSlice (t:TypeId) (len:Nat) (parts:Array (Nat×Operand)):Branch:=fun P _ env s=>match opds env (parts.toList.map (·.2)),tel P t with
 | some vs,some (e,n)=>match tzero P e with
  | some z=>match Nat.ble (len*n) 1048576,fills (fun i=>some (i*n,n)) (rep z.cells len) ((parts.toList.map (·.1)).zip vs) with
   | true,some l=>.ok (.sl s.n 0 len len) (s.new (.cells e l))
   | _,_=>.fail
  | none=>.fail
 | _,_=>.fail
def eLoad (t:TypeId) (a:Operand):Branch:=fun P _ env s=>match opd a env with
 | some (.ptr b o)=>loadC P s t b o
 | _=>.fail
def eStore (t:TypeId) (a x:Operand):Branch:=fun P _ env s=>match opd a env,opd x env,tsize P t with
 | some (.ptr b o),some v,some n=>match Nat.beq v.cells.length n with|true=>storeC s b o v.cells (.tup [])|false=>.fail
 | _,_,_=>.fail
def eNilCheck (x:Operand):Branch:=fun _ _ env s=>match opd x env with
 | some (.ptr b o)=>.ok (.ptr b o) s
 | some (.fn (.func f) a b)=>.ok (.fn (.func f) a b) s
 | _=>.fail
def eBinOp (op:BinOp) (t:TypeId) (x y:Operand) (_u:TypeId):Branch:=fun P _ env s =>
 Option.rec .fail (fun a=>Option.rec .fail (fun b=>R.of s (evBin op P t (isC x||isC y) a b)) (opd y env)) (opd x env)
def eUnOp (op:UnOp) (_t:TypeId) (x:Operand):Branch:=fun _ _ env s=>match opd x env with|some a=>R.of s (evUn op a)|none=>.fail
def eConvert (a b:TypeId) (x:Operand):Branch:=fun P _ env s=>match opd x env with|some v=>evConv P s a b v|none=>.fail
def eMakeI (t:TypeId) (x:Operand):Branch:=fun P _ env s=>match opd x env,tdesc P t with
 | some _,some (.interface _)=>.fail
 | some v,some _=>.ok (.iface t v) s
 | _,_=>.fail
def eMakeF (f:Fn) (a b:Array Operand):Branch:=fun _ _ env s=>match opds env a.toList,opds env b.toList with|some a,some b=>.ok (.fn f a b) s|_,_=>.fail
def eMakeMap (_t:TypeId) (r:Option Operand):Branch:=fun _ _ _ s=>match r with
 | none=>.ok (.map s.n) (s.new (.map [] 0))
 | some _=>.fail
def eMakeSlice (t:TypeId) (l c:Operand):Branch:=fun P _ env s=>match tel P t,opd l env,opd c env with
 | some (e,_),some (.int _ (.ofNat l)),some (.int _ (.ofNat c))=>match tzero P e with
  | some z=>match Nat.ble l c,Nat.ble c 1048576 with
   | true,true=>.ok (.sl s.n 0 l c) (s.new (.cells e (rep z.cells c)))
   | _,_=>.fail
  | none=>.fail
 | _,_,_=>.fail
def eSlice (t:TypeId) (x:Operand) (lo hi mx:Option Operand):Branch:=fun P _ env s=>match opd x env with
 | some (.str l)=>match mx,tdesc P t with
  | none,some .string=>match sbounds env l.length l.length lo hi none with|some (a,b,_)=>.ok (.str ((l.take b).drop a)) s|none=>.fail
  | _,_=>.fail
 | some .nils=>match sbounds env 0 0 lo hi mx,tel P t with|some _,some _=>.ok .nils s|_,_=>.fail
 | some (.sl b o n c)=>match sbounds env n c lo hi mx,tel P t with
  | some (l,h,m),some (_,z)=>.ok (.sl b (match Nat.beq m l with|true=>o|false=>o+l*z) (h-l) (m-l)) s
  | _,_=>.fail
 | some (.su b o n y)=>match sbounds env n n lo hi mx,tel P t,mx with
  | some (l,h,_),some (_,z),none=>match Nat.beq y z,(Nat.beq l 0||Nat.blt l n) with
   | true,true=>.ok (.su b (o+l*z) (h-l) z) s
   | _,_=>.fail
  | some (l,h,m),some (_,z),some _=>.ok (.sl b (match Nat.beq m l with|true=>o|false=>o+l*z) (h-l) (m-l)) s
  | _,_,_=>.fail
 | _=>.fail
def eFieldAddr (t:TypeId) (x:Operand) (i:Nat):Branch:=fun P _ env s=>match opd x env,tfplace P t i with
 | some (.ptr b o),some k=>.ok (.ptr b (o+k)) s
 | _,_=>.fail
def eField (t:TypeId) (x:Operand) (i:Nat):Branch:=fun P _ env s=>match opd x env,tfield P t i with
 | some (.agg l),some f=>R.of s (part P f.type l f.offset)
 | _,_=>.fail
def idx (s:St) (e:Option (TypeId×Nat)) (b o n k:Nat):R AV:=match Nat.blt k n,e with
 | true,some (_,z)=>.ok (.ptr b (o+k*z)) s
 | _,_=>.fail
def tarr (P:Program) (t:TypeId):Option (Nat×Nat):=match P.underlying t with
 | some (.array n e)=>(match tsize P e with|some 0=>none|some z=>some (n,z)|none=>none)
 | _=>none
def eIndexAddr (t:TypeId) (x i:Operand):Branch:=fun P _ env s=>match opd x env,opd i env with
 | some (.sl b o n _),some (.int _ (.ofNat k))=>idx s (tel P t) b o n k
 | some (.su b o n _),some (.int _ (.ofNat k))=>idx s (tel P t) b o n k
 | some (.ptr b o),some (.int _ (.ofNat k))=>match tarr P t with
  | some (n,z)=>idx s (some (0,z)) b o n k
  | none=>.fail
 | _,_=>.fail
def eIndex (t:TypeId) (x i:Operand):Branch:=fun P _ env s=>match opd x env,opd i env with
 | some (.str l),some (.int _ (.ofNat k))=>match tdesc P t,l[k]? with
  | some .string,some c=>.ok (.int .u8 (.ofNat c.toNat)) s
  | _,_=>.fail
 | some (.agg l),some (.int _ (.ofNat k))=>match tdesc P t with
  | some (.array n e)=>match tsize P e,Nat.blt k n with|some z,true=>R.of s (part P e l (k*z))|_,_=>.fail
  | _=>.fail
 | _,_=>.fail
def lookR (s:St) (z:AV) (ok:Bool):Option (Option (Nat×AV))→R AV
 | some (some (_,v))=>.ok (match ok with|true=>.tup [v,.bool true]|false=>v) s
 | some none=>.ok (match ok with|true=>.tup [z,.bool false]|false=>z) s
 | none=>.fail
def eLookup (t:TypeId) (x k:Operand) (ok:Bool):Branch:=fun P _ env s=>match opd x env,opd k env,tdesc P t with
 | some m,some k,some (.map kt e)=>match kfit P kt k,tzero P e,m with
  | true,some z,.nilm=>lookR s z ok (some none)
  | true,some z,.map b=>match s.h.get b with
   | some (.map l _)=>lookR (s.rd b 0 1) z ok (findE k l 0)
   | _=>.fail
  | _,_,_=>.fail
 | _,_,_=>.fail
def eMapUpdate (t:TypeId) (m k x:Operand):Branch:=fun P _ env s=>match opd m env,opd k env,opd x env,tdesc P t with
 | some (.map b),some k,some v,some (.map kt _)=>match s.h.get b,kfit P kt k with
  | some (.map l c),true=>match findE k l 0 with
   | some (some (i,_))=>.ok (.tup []) (s.put b 0 1 (some (.map (modE l i v) c)))
   | some none=>.ok (.tup []) (s.put b 0 1 (some (.map (l++[⟨k,v,c⟩]) (c+1))))
   | none=>.fail
  | _,_=>.fail
 | _,_,_,_=>.fail
def eMapEntry (t:TypeId) (m k:Operand):Branch:=fun P _ env s=>match opd m env,opd k env,tdesc P t with
 | some (.map b),some k,some (.map kt e)=>match s.h.get b,tzero P e,kfit P kt k with
  | some (.map l c),some z,true=>match findE k l 0 with
   | some (some (i,v))=>.ok (.tup [v,.int .i64 (.ofNat (match l[i]? with|some e=>e.born|none=>0))]) (s.put b 0 1 (some (.map l c)))
   | some none=>.ok (.tup [z,.int .i64 (.ofNat c)]) (s.put b 0 1 (some (.map (l++[⟨k,z,c⟩]) (c+1))))
   | none=>.fail
  | _,_,_=>.fail
 | _,_,_=>.fail
def bornAt (c:Nat):List AEntry→Nat→Option Nat
 | [],_=>none
 | e::l,i=>match Nat.beq e.born c with|true=>some i|false=>bornAt c l (i+1)
def eEntryStore (_t:TypeId) (m st x:Operand):Branch:=fun _ _ env s=>match opd m env,opd st env,opd x env with
 | some (.map b),some (.int _ (.ofNat c)),some v=>match s.h.get b with
  | some (.map l cl)=>match bornAt c l 0 with
   | some i=>.ok (.tup []) (s.put b 0 1 (some (.map (modE l i v) cl)))
   | none=>.fail
  | _=>.fail
 | _,_,_=>.fail
def eRange (t:TypeId) (x:Operand):Branch:=fun P _ env s=>match opd x env,tdesc P t with
 | some (.str l),some .string=>.ok (.ptr s.n 0) (s.new (.striter l 0))
 | some .nilm,some (.map _ _)=>.ok (.ptr s.n 0) (s.new (.mapiter none 0 [] 0))
 | some (.map m),some (.map _ _)=>match s.h.get m with
  | some (.map _ c)=>.ok (.ptr s.n 0) ((s.rd m 0 1).new (.mapiter (some m) c [] c))
  | _=>.fail
 | _,_=>.fail
def leftOf (seen:List Nat):List AEntry→List AEntry
 | []=>[]
 | e::l=>match seen.any (Nat.beq e.born) with|true=>leftOf seen l|false=>e::leftOf seen l
def nextOk (seen:List Nat) (st:Nat) (l:List AEntry):Bool:=match seen,l with
 | [],_=>true
 | _::_,[]=>true
 | _::_,_::_=>l.any fun e=>Nat.blt e.born st
def eNext (it:Operand) (isString:Bool):Branch:=fun _ _ env s=>match opd it env with
 | some (.ptr b 0)=>match s.h.get b,isString with
  | some (.mapiter none _ _ _),false=>.ok (.tup [.bool false]) (s.rd b 0 1)
  | some (.mapiter (some m) since seen st),false=>match s.h.get m with
   | some (.map l c)=>match nextOk seen st l,leftOf seen l with
    | true,[]=>.ok (.tup [.bool false]) ((s.rd b 0 1).rd m 0 1)
    | true,[e]=>match Nat.blt e.born since with
     | true=>.ok (.tup [.bool true,e.key,e.val]) ((s.rd m 0 1).put b 0 1 (some (.mapiter (some m) since (seen++[e.born]) c)))
     | false=>.fail
    | _,_=>.fail
   | _=>.fail
  | some (.striter l p),true=>match Nat.blt p l.length with
   | true=>.ok (.tup [.bool true,.int .i64 (.ofNat p),.int .i32 (Utf8.decode ⟨l.toArray⟩ p).1]) (s.put b 0 1 (some (.striter l (p+(Utf8.decode ⟨l.toArray⟩ p).2))))
   | false=>.ok (.tup [.bool false]) (s.rd b 0 1)
  | _,_=>.fail
 | _=>.fail
def eEntry (it:Operand):Branch:=fun _ _ env s=>match opd it env with
 | some (.ptr b 0)=>match s.h.get b with
  | some (.mapiter (some m) _ seen st)=>match s.h.get m,seen.getLast? with
   | some (.map l c),some k=>match Nat.beq c st,bornAt k l 0 with
    | true,some i=>(match l[i]? with|some e=>.ok (.tup [e.key,e.val]) ((s.rd b 0 1).rd m 0 1)|none=>.fail)
    | _,_=>.fail
   | _,_=>.fail
  | _=>.fail
 | _=>.fail
def assertR (s:St) (z:Option AV) (v:AV) (ok:Bool) (holds:Bool):R AV:=match holds,ok with
 | true,true=>.ok (.tup [v,.bool true]) s
 | true,false=>.ok v s
 | false,true=>(match z with|some z=>.ok (.tup [z,.bool false]) s|none=>.fail)
 | false,false=>.fail
def eTypeAssert (x:Operand) (_t:TypeId) (want:TypeId) (ok:Bool):Branch:=fun P _ env s=>match opd x env,tdesc P want with
 | some (.iface t v),some (.interface w)=>match P.info? t with
  | some i=>assertR s (tzero P want) (.iface t v) ok (match Instr.missingMethod w i.methods with|none=>true|some _=>false)
  | none=>.fail
 | some .nili,some _=>assertR s (tzero P want) .nili ok false
 | some (.iface t v),some _=>assertR s (tzero P want) v ok (Nat.beq t want)
 | _,_=>.fail
def eExtract (x:Operand) (i:Nat):Branch:=fun _ _ env s=>match opd x env with|some (.tup l)=>R.of s (l[i]?)|_=>.fail
def eCall (c:Call):Branch:=fun P call env s=>match opds env c.args.toList with
 | some args=>match c.callee with
  | .builtin b=>evBuiltin P s b c.argTypes.toList args
  | .value f=>match opd f env with|some (.fn f first cap)=>invokeV call f (first++args) cap s|_=>.fail
  | _=>.fail
 | none=>.fail
def eNo:Branch:=fun _ _ _ _=>.fail
def evOp (op:Op):Branch :=
 Op.rec (motive:=fun _=>Branch) eMove eMove ePick eAlloc eBox eBuild eBuildSlice eMapUpdate eLoad eStore (fun _=>eNo) (fun _=>eNo) eNilCheck eBinOp eUnOp eConvert (fun _ _=>eNo)
  eMakeI eMakeF eMakeMap (fun _ _=>eNo) eMakeSlice eSlice eFieldAddr eField eIndexAddr eIndex eLookup eMapUpdate eMapEntry eEntryStore eRange eNext eEntry (fun _ _ _ _=>eNo) eExtract eCall
  (fun _=>eNo) (fun _=>eNo) (fun _=>eNo) (fun _ _=>eNo) (fun _ _ _=>eNo) (fun _ _=>eNo) op
def wanted (ops:Array Oper) (g:Option (Nat×Bool)) (env:Env):Option Bool:=match g with
 | none=>some true
 | some (j,want)=>match ops[j]? with
  | some o=>match o.dst with
   | some d=>match env d with|some (.bool b)=>some (b==want)|some _=>some false|none=>none
   | none=>none
  | none=>none
def putd (d:Option Tmp) (env:Env) (v:AV):Env:=Option.rec env (fun d=>upd env d v) d
def evOper (ops:Array Oper) (o:Oper):Branch:=fun P call env s=>match o.guard with
 | none=>evOp o.op P call env s
 | some g=>match wanted ops (some g) env with
  | some true=>evOp o.op P call env s
  | some false=>.ok (.tup []) s
  | none=>.fail
def evOps (P:Program) (call:CallF) (ops:Array Oper) (l:List Oper):Env→St→R Env :=
 List.rec (motive:=fun _=>Env→St→R Env) (fun env s=>.ok env s)
  (fun o _ ih env s=>R.rec .fail (fun v s=>ih (putd o.dst env v) s) (evOper ops o P call env s)) l
inductive C where
 | fail
 | norm (env:Env) (s:St)
 | exit (id:Nat) (env:Env) (s:St)
 | ret (env:Env) (s:St)
 deriving Inhabited
def iter (f:Env→St→C) (n:Nat):Env→St→C :=
 Nat.rec (motive:=fun _=>Env→St→C) (fun _ _=>.fail) (fun _ ih env s=>C.rec .fail (fun env s=>ih env s) .exit .ret (f env s)) n
def leave (id:Nat) (c:C):C:=C.rec .fail .norm (fun i env s=>Bool.rec (.exit i env s) (.norm env s) (Nat.beq i id)) .ret c
abbrev Drawn:=Program→CallF→Array Oper→Env→St→R Env
def evCode (P:Program) (call:CallF) (dr:Drawn) (n:Nat) (c:Code):Env→St→C :=
 Code.rec (motive:=fun _=>Env→St→C)
  (fun env s=>.norm env s)
  (fun _ ops d env s=>R.rec .fail (fun env s=>.norm env s) (Bool.rec (evOps P call ops ops.toList env s) (dr P call ops env s) d))
  (fun _ _ a b env s=>C.rec .fail (fun env s=>b env s) .exit .ret (a env s))
  (fun c _ _ a b env s=>match opd c env with|some (.bool true)=>a env s|some (.bool false)=>b env s|_=>.fail)
  (fun id _ a env s=>leave id (a env s))
  (fun _ a env s=>iter a n env s)
  (fun _ _ _ _ _ _ _ _=>.fail)
  (fun id env s=>.exit id env s)
  (fun _ a env s=>a env s)
  (fun _ env s=>.norm env s)
  (fun _ _ _=>.fail)
  (fun env s=>.ret env s)
  (fun _ _ _=>.fail) c
def mkEnv:List AV→Nat→Env→Env
 | [],_,t=>t
 | v::l,i,t=>mkEnv l (i+1) (upd t i v)
def resV (P:Program) (env:Env) (s:St):ResultVar→R AV
 | .tmp t=>R.of s (env t)
 | .cell a t=>match env a with|some (.ptr b o)=>loadC P s t b o|_=>.fail
def resVs (P:Program) (env:Env):List ResultVar→St→R (List AV)
 | [],s=>.ok [] s
 | x::l,s=>match resV P env s x with
  | .ok v s=>(match resVs P env l s with | .ok vs s=>.ok (v::vs) s | .fail=>.fail)
  | .fail=>.fail
def resOf:R (List AV)→R AV
 | .ok [v] s=>.ok v s
 | .ok l s=>.ok (.tup l) s
 | .fail=>.fail
def dsts (n:Nat):Code→Bool
 | .region _ ops _=>ops.toList.all fun o=>match o.dst with|some d=>Nat.blt d n|none=>true
 | .seq a b=>dsts n a&&dsts n b
 | .cond _ a b=>dsts n a&&dsts n b
 | .block _ a=>dsts n a
 | .loop a=>dsts n a
 | .scope a=>dsts n a
 | .rangeFunc _ _ a b=>dsts n a&&dsts n b
 | _=>true
def fnOf (P:Program) (f:FuncId):Option (Code×List ResultVar×Nat):=match P.funcs[f]? with
 | some fn => match fn.body, fn.name == "runtime.NumGoroutine" with
  | some c,false=>(match dsts fn.ntmps c with|true=>some (c,fn.results.toList,fn.ntmps)|false=>none)
  | _,_=>none
 | none=>none
def endOf (P:Program) (rs:List ResultVar) (c:C):R AV :=
 C.rec .fail (fun env s=>resOf (resVs P env rs s)) (fun _ _ _=>.fail) (fun env s=>resOf (resVs P env rs s)) c
abbrev Prims:=FuncId→Option (List AV→St→R AV)
def evCall (P:Program) (pr:Prims) (dr:Drawn) (n:Nat) (d:Nat):CallF :=
 Nat.rec (motive:=fun _=>CallF) (fun _ _ _=>.fail)
  (fun _ ih f args s=>Option.rec
   (match fnOf P f with
    | some (c,rs,m)=>match Nat.ble args.length m with
     | true=>endOf P rs (evCode P ih dr n c (mkEnv args 0 fun _=>none) s)
     | false=>.fail
    | none=>.fail)
   (fun g=>g args s) (pr f)) d
end
end Go.Ev
