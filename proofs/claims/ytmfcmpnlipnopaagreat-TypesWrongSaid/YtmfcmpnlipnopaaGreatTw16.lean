/- Parts of this proof, one behind the other: EvT. -/
import Derived.Test.YtmfcmpnlipnopaaGreatTw15
set_option maxRecDepth 1000000
set_option maxHeartbeats 40000000
namespace Go.Ev
inductive R3 where
 | fail
 | ok (e:E3) (s:St)
inductive C3 where
 | fail
 | norm (e:E3) (s:St)
 | exit (id:Nat) (e:E3) (s:St)
 | ret (e:E3) (s:St)
abbrev Br3:=Program→CallF→E3→St→R AV
noncomputable section
def lift (br:Branch):Br3:=fun P call e s=>br P call (ev3 e) s
def opd3 (x:Operand) (e:E3):Option AV :=
 Operand.rec (motive:=fun _=>E3→Option AV) (fun t e=>get3 (pth t) e) (fun v _=>ofV v) (fun _ _=>none) (fun f _=>some (.fn (.func f) [] [])) x e
theorem opd3_eq (x:Operand) (e:E3):opd3 x e=opd x (ev3 e):=by cases x<;>rfl
theorem onSome_eq {α β:Type} (x:Option α) (f:α→β) (d:β):onSome x f d=match x with|some a=>f a|none=>d:=by cases x<;>rfl
def nth {α:Type} (l:List α) (i:Nat):Option α:=List.rec (motive:=fun _=>Nat→Option α) (fun _=>none) (fun x _ ih i=>Nat.rec (motive:=fun _=>Option α) (some x) (fun j _=>ih j) i) l i
theorem nth_eq {α:Type}:∀ (l:List α) (i:Nat),nth l i=l[i]?
 | [],_=>rfl
 | _::_,0=>rfl
 | _::l,i+1=>by rw[List.getElem?_cons_succ,← nth_eq l i];rfl
def dropL {α:Type} (l:List α) (i:Nat):List α:=List.rec (motive:=fun _=>Nat→List α) (fun _=>[]) (fun x l ih i=>Nat.rec (motive:=fun _=>List α) (x::l) (fun j _=>ih j) i) l i
theorem dropL_eq {α:Type}:∀ (l:List α) (i:Nat),dropL l i=l.drop i
 | [],i=>by simp[dropL]
 | _::_,0=>rfl
 | _::l,i+1=>by rw[List.drop_succ_cons,← dropL_eq l i];rfl
def takeO {α:Type} (n:Nat) (l:List α):Option (List α) :=
 Nat.rec (motive:=fun _=>List α→Option (List α)) (fun _=>some []) (fun _ ih l=>List.rec (motive:=fun _=>(List α→Option (List α))→Option (List α)) (fun _=>none) (fun x l _ ih=>Option.rec (motive:=fun _=>α→Option (List α)) (fun _=>none) (fun r x=>some (x::r)) (ih l) x) l ih) n l
theorem takeO_eq {α:Type}:∀ (n:Nat) (l:List α),takeO n l=match Nat.beq (l.take n).length n with|true=>some (l.take n)|false=>none
 | 0,l=>by show some []=_;simp only[List.take_zero,List.length_nil]
 | n+1,[]=>rfl
 | n+1,x::l=>by
  have e:takeO (n+1) (x::l)=match takeO n l with|some r=>some (x::r)|none=>none:=by
   show Option.rec (motive:=fun _=>α→Option (List α)) _ _ (takeO n l) x=_
   cases takeO n l<;>rfl
  rw[e,takeO_eq n l,List.take_succ_cons,List.length_cons]
  have h2:Nat.beq ((l.take n).length+1) (n+1)=Nat.beq (l.take n).length n:=rfl
  rw[h2]
  cases Nat.beq (l.take n).length n<;>rfl
def cut3 (l:List AV) (o n:Nat):Option (List AV):=takeO n (dropL l o)
theorem cut3_eq (l:List AV) (o n:Nat):cut3 l o n=cut l o n:=by unfold cut3 cut;rw[takeO_eq,dropL_eq];cases Nat.beq ((l.drop o).take n).length n<;>rfl
def fMove (x:Operand):Br3:=fun _ _ e s=>R.of s (opd3 x e)
theorem fMove_eq (x:Operand):fMove x=lift (eMove x):=by funext P call e s;unfold fMove lift eMove;rw[opd3_eq]
def fPick (c a b:Operand):Br3:=fun _ _ e s=>onSome (opd3 c e) (fun v=>onBool v (R.of s (opd3 a e)) (R.of s (opd3 b e)) .fail) .fail
theorem fPick_eq (c a b:Operand):fPick c a b=lift (ePick c a b):=by
 funext P call e s
 unfold fPick lift ePick
 rw[opd3_eq,opd3_eq,opd3_eq,onSome_eq]
 cases opd c (ev3 e) with
 | none=>rfl
 | some v=>cases v<;>first|rfl|(rename_i b;cases b<;>rfl)
def fCmp (f:Int→Int→Bool) (g:List UInt8→List UInt8→Bool) (x y:AV):Option AV :=
 onInt x (fun k a=>onInt y (fun k' b=>Bool.rec none (some (.bool (f a b))) (kEq k k')) none) (onStr x (fun l=>onStr y (fun l'=>some (.bool (g l l'))) none) none)
theorem fCmp_eq {f:Int→Int→Bool} {g:List UInt8→List UInt8→Bool} {f':IntKind→Int→Int→Option AV} {g':List UInt8→List UInt8→Option AV} (hf:∀ k a b,f' k a b=some (.bool (f a b))) (hg:∀ l l',g' l l'=some (.bool (g l l'))) (x y:AV):fCmp f g x y=both f' g' x y:=by
  unfold fCmp both
  cases x<;>first
    | rfl
    | (cases y<;>first
        | rfl
        | (rename_i k a k' b
           show (Bool.rec none (some (.bool (f a b))) (kEq k k'):Option AV)=_
           rw[kEq_eq]
           by_cases h:k=k'
           · simp only[h,decide_true,if_true,hf]
           · simp only[h,decide_false,if_false])
        | (rename_i l l'
           exact(hg l l').symm))
def fLss:BinF:=fun _ _ _=>fCmp ltI Op.bytesLess
def fLeq:BinF:=fun _ _ _=>fCmp leI (fun a b=>Op.bytesLess a b||a==b)
def fGtr:BinF:=fun _ _ _=>fCmp (fun a b=>ltI b a) (fun a b=>!(Op.bytesLess a b||a==b))
def fGeq:BinF:=fun _ _ _=>fCmp (fun a b=>leI b a) (fun a b=>!Op.bytesLess a b)
def fEql:BinF:=fun P t c x y =>
 onInt x (fun k a=>onInt y (fun k' b=>Bool.rec none (some (.bool (eqI a b))) (kEq k k')) (bEql P t c x y)) (onStr x (fun l=>onStr y (fun l'=>some (.bool (eqS l l'))) (bEql P t c x y)) (bEql P t c x y))
def fNeq:BinF:=fun P t c x y =>
 onInt x (fun k a=>onInt y (fun k' b=>Bool.rec none (some (.bool (Bool.rec true false (eqI a b)))) (kEq k k')) (bNeq P t c x y)) (onStr x (fun l=>onStr y (fun l'=>some (.bool (Bool.rec true false (eqS l l')))) (bNeq P t c x y)) (bNeq P t c x y))
def fAdd:BinF:=fun _ _ _ x y=>onInt x (fun k a=>onInt y (fun k' b=>Bool.rec none (some (.int k (addI k a b))) (kEq k k')) (bAdd x y)) (bAdd x y)
def fSub:BinF:=fun _ _ _ x y=>onInt x (fun k a=>onInt y (fun k' b=>Bool.rec none (some (.int k (subI k a b))) (kEq k k')) (bSub x y)) (bSub x y)
theorem kRec {k k':IntKind} {a b:Option AV}:(Bool.rec a b (kEq k k'):Option AV)=if k=k' then b else a:=by
 rw[kEq_eq];by_cases h:k=k'<;>simp[h]
theorem nRec (b:Bool):(Bool.rec true false b:Bool) = !b:=by cases b<;>rfl
theorem fLss_eq:fLss=kLss:=by funext P t c x y;exact fCmp_eq (fun k a b=>by rw[ltI_eq]) (fun _ _=>rfl) x y
theorem fLeq_eq:fLeq=kLeq:=by funext P t c x y;exact fCmp_eq (fun k a b=>by rw[leI_eq]) (fun _ _=>rfl) x y
theorem fGtr_eq:fGtr=kGtr:=by funext P t c x y;exact fCmp_eq (fun k a b=>by rw[ltI_eq]) (fun _ _=>rfl) x y
theorem fGeq_eq:fGeq=kGeq:=by funext P t c x y;exact fCmp_eq (fun k a b=>by rw[leI_eq]) (fun _ _=>rfl) x y
theorem fEql_eq:fEql=bEql:=by
  funext P t c x y
  unfold fEql
  cases x<;>first
    | rfl
    | (cases y<;>first
        | rfl
        | (rename_i k a k' b
           show (Bool.rec none (some (.bool (eqI a b))) (kEq k k'):Option AV)=_
           rw[kRec,eqI_eq];rfl)
        | (rename_i l l'
           show some (AV.bool (eqS l l'))=_
           rw[eqS_eq];rfl))
theorem fNeq_eq:fNeq=bNeq:=by
  funext P t c x y
  unfold fNeq
  cases x<;>first
    | rfl
    | (cases y<;>first
        | rfl
        | (rename_i k a k' b
           show (Bool.rec none (some (.bool (Bool.rec true false (eqI a b)))) (kEq k k'):Option AV)=_
           rw[kRec,nRec,eqI_eq];rfl)
        | (rename_i l l'
           show some (AV.bool (Bool.rec true false (eqS l l')))=_
           rw[nRec,eqS_eq];rfl))
theorem fAdd_eq:fAdd=kAdd:=by
  funext P t c x y
  unfold fAdd
  cases x<;>first
    | rfl
    | (cases y<;>first
        | rfl
        | (rename_i k a k' b
           show (Bool.rec none (some (.int k (addI k a b))) (kEq k k'):Option AV)=_
           rw[kRec,addI_eq];rfl))
theorem fSub_eq:fSub=kSub:=by
  funext P t c x y
  unfold fSub
  cases x<;>first
    | rfl
    | (cases y<;>first
        | rfl
        | (rename_i k a k' b
           show (Bool.rec none (some (.int k (subI k a b))) (kEq k k'):Option AV)=_
           rw[kRec,subI_eq];rfl))
def evBin3 (op:BinOp):BinF :=
 BinOp.rec (motive:=fun _=>BinF) fAdd fSub kMul kQuo kRem kAnd kOr kXor kShl kShr kAndNot fEql fNeq fLss fLeq fGtr fGeq op
theorem evBin3_eq (op:BinOp):evBin3 op=evBin op:=by
 cases op<;>first|rfl|exact fAdd_eq|exact fSub_eq|exact fEql_eq|exact fNeq_eq|exact fLss_eq|exact fLeq_eq|exact fGtr_eq|exact fGeq_eq
def fBinOp (op:BinOp) (t:TypeId) (x y:Operand) (_u:TypeId):Br3:=fun P _ e s =>
 onSome (opd3 x e) (fun a=>onSome (opd3 y e) (fun b=>R.of s (evBin3 op P t (isC x||isC y) a b)) .fail) .fail
theorem fBinOp_eq (op:BinOp) (t:TypeId) (x y:Operand) (u:TypeId):fBinOp op t x y u=lift (eBinOp op t x y u):=by
 funext P call e s
 unfold fBinOp lift eBinOp
 rw[opd3_eq,opd3_eq,evBin3_eq]
 cases opd x (ev3 e)<;>first|rfl|(cases opd y (ev3 e)<;>rfl)
def fUnOp (op:UnOp) (_t:TypeId) (x:Operand):Br3:=fun _ _ e s =>
 onSome (opd3 x e) (fun a=>R.of s (onBool a (evUn op (.bool true)) (evUn op (.bool false)) (evUn op a))) .fail
theorem fUnOp_eq (op:UnOp) (t:TypeId) (x:Operand):fUnOp op t x=lift (eUnOp op t x):=by
 funext P call e s
 unfold fUnOp lift eUnOp
 rw[opd3_eq,onSome_eq]
 cases opd x (ev3 e) with
 | none=>rfl
 | some v=>cases v<;>first|rfl|(rename_i b;cases b<;>rfl)
def onCells {β:Type} (x:Blk) (f:TypeId→List AV→β) (d:β):β:=Blk.rec (motive:=fun _=>(TypeId→List AV→β)→β→β) (fun e l f _=>f e l) (fun _ _ _ d=>d) (fun _ _ _ d=>d) (fun _ _ _ _ _ d=>d) x f d
def onPair {α β γ:Type} (p:α×β) (f:α→β→γ):γ:=Prod.rec (motive:=fun _=>(α→β→γ)→γ) (fun a b f=>f a b) p f
def onSt {β:Type} (s:St) (f:Tr Blk→Nat→List Acc→β):β:=St.rec (motive:=fun _=>(Tr Blk→Nat→List Acc→β)→β) (fun h n lg f=>f h n lg) s f
def load3 (P:Program) (s:St) (t:TypeId) (b o:Nat):R AV:=onSt s fun h n lg=>onSome (Tr.get h b) (fun k=>onCells k (fun _ l=>onSome (tshape P t) (fun p=>onPair p fun ag z =>
 Bool.rec (onSome (nth l o) (fun v=>.ok v ⟨h,n,⟨false,b,o,1⟩::lg⟩) .fail) (onSome (cut3 l o z) (fun r=>.ok (.agg r) ⟨h,n,⟨false,b,o,z⟩::lg⟩) .fail) ag) .fail) .fail) .fail
theorem load3_eq (P:Program) (s:St) (t:TypeId) (b o:Nat):load3 P s t b o=loadC P s t b o:=by
 obtain⟨h,n,lg⟩:=s
 show onSome (Tr.get h b) _ _=_
 unfold loadC
 rw[onSome_eq]
 cases Tr.get h b with
 | none=>rfl
 | some k =>
  cases k with
  | cells e l =>
   show onSome (tshape P t) _ _=_
   rw[onSome_eq]
   cases tshape P t with
   | none=>rfl
   | some p =>
    obtain⟨ag,z⟩:=p
    cases ag with
    | false =>
     show onSome (nth l o) _ _=(match l[o]? with|some v=>R.ok v ((⟨h,n,lg⟩:St).rd b o 1)|none=>.fail)
     rw[onSome_eq,nth_eq]
     cases l[o]?<;>rfl
    | true =>
     show onSome (cut3 l o z) _ _=(match cut l o z with|some r=>R.ok (AV.agg r) ((⟨h,n,lg⟩:St).rd b o z)|none=>.fail)
     rw[onSome_eq,cut3_eq]
     cases cut l o z<;>rfl
  | _=>rfl
def fLoad (t:TypeId) (a:Operand):Br3:=fun P _ e s=>onSome (opd3 a e) (fun v=>onPtr v (fun b o=>load3 P s t b o) .fail) .fail
theorem fLoad_eq (t:TypeId) (a:Operand):fLoad t a=lift (eLoad t a):=by
 funext P call e s
 unfold fLoad lift eLoad
 rw[opd3_eq,onSome_eq]
 cases opd a (ev3 e) with
 | none=>rfl
 | some v=>cases v<;>first|rfl|exact load3_eq _ _ _ _ _
def cells3 (x:AV):List AV :=
 AV.rec (motive_1:=fun _=>AV→List AV) (motive_2:=fun _=>PUnit) (fun _ x=>[x]) (fun _ _ x=>[x]) (fun _ x=>[x]) (fun x=>[x]) (fun _ _ x=>[x]) (fun x=>[x]) (fun _ _ _ _ x=>[x]) (fun _ _ _ _ x=>[x]) (fun x=>[x]) (fun _ x=>[x]) (fun _ _ _ _ _ x=>[x]) (fun x=>[x]) (fun _ _ _ x=>[x]) (fun x=>[x]) (fun l _ _=>l) (fun _ _ x=>[x]) ⟨⟩ (fun _ _ _ _=>⟨⟩) x x
theorem cells3_eq (x:AV):cells3 x=x.cells:=by cases x<;>rfl
def set1 (l:List AV) (o:Nat) (v:AV):Option (List AV) :=
 List.rec (motive:=fun _=>Nat→AV→Option (List AV)) (fun _ _=>none) (fun x l ih o v=>Nat.rec (motive:=fun _=>Option (List AV)) (some (v::l)) (fun j _=>Option.rec (motive:=fun _=>AV→Option (List AV)) (fun _=>none) (fun r x=>some (x::r)) (ih j v) x) o) l o v
theorem over_nil (l:List AV):over l 0 []=some l:=by cases l<;>rfl
theorem set1_eq:∀ (l:List AV) (o:Nat) (v:AV),set1 l o v=over l o [v]
 | [],0,_=>rfl
 | [],_+1,_=>rfl
 | x::l,0,v=>by
  show some (v::l)=_
  simp only[over,over_nil]
 | x::l,o+1,v=>by
  have e:set1 (x::l) (o+1) v=match set1 l o v with|some r=>some (x::r)|none=>none:=by
   show Option.rec (motive:=fun _=>AV→Option (List AV)) _ _ (set1 l o v) x=_
   cases set1 l o v<;>rfl
  rw[e,set1_eq l o v]
  simp only[over]
  cases over l o [v]<;>rfl
def store3 (s:St) (b o:Nat) (vs:List AV) (r:AV):R AV:=onSt s fun h n lg=>onSome (Tr.get h b) (fun k=>onCells k (fun e l=>Bool.rec .fail
 (onSome (List.rec (motive:=fun _=>List AV→Nat→List AV→Option (List AV)) (fun l o vs=>over l o vs) (fun v r _ l o vs=>List.rec (motive:=fun _=>List AV→Nat→AV→List AV→Option (List AV)) (fun l o v _=>set1 l o v) (fun _ _ _ l o _ vs=>over l o vs) r l o v vs) vs l o vs)
  (fun l'=>.ok r ⟨h.set b (some (.cells e l')),n,⟨true,b,o,vs.length⟩::lg⟩) .fail) (vs.all AV.one)) .fail) .fail
theorem store3_eq (s:St) (b o:Nat) (vs:List AV) (r:AV):store3 s b o vs r=storeC s b o vs r:=by
 obtain⟨h,n,lg⟩:=s
 show onSome (Tr.get h b) _ _=_
 unfold storeC
 rw[onSome_eq]
 cases Tr.get h b with
 | none=>rfl
 | some k =>
  cases k with
  | cells e l =>
   show (Bool.rec _ (onSome (List.rec (motive:=fun _=>List AV→Nat→List AV→Option (List AV)) _ _ vs l o vs) _ _) (vs.all AV.one):R AV)=(match vs.all AV.one,over l o vs with|true,some l'=>R.ok r ((⟨h,n,lg⟩:St).put b o vs.length (some (.cells e l')))|_,_=>R.fail)
   have hov:(List.rec (motive:=fun _=>List AV→Nat→List AV→Option (List AV)) (fun l o vs=>over l o vs) (fun v r _ l o vs=>List.rec (motive:=fun _=>List AV→Nat→AV→List AV→Option (List AV)) (fun l o v _=>set1 l o v) (fun _ _ _ l o _ vs=>over l o vs) r l o v vs) vs l o vs)=over l o vs:=by
    match vs with
    | []=>rfl
    | [v]=>exact set1_eq l o v
    | _::_::_=>rfl
   rw[hov,onSome_eq]
   cases vs.all AV.one with
   | false=>rfl
   | true=>cases over l o vs<;>rfl
  | _=>rfl
def fStore (t:TypeId) (a x:Operand):Br3:=fun P _ e s=>onSome (opd3 a e) (fun p=>onPtr p (fun b o=>onSome (opd3 x e) (fun v=>onSome (tsize P t) (fun n=>Bool.rec .fail (store3 s b o (cells3 v) (.tup [])) (Nat.beq (cells3 v).length n)) .fail) .fail) .fail) .fail
theorem fStore_eq (t:TypeId) (a x:Operand):fStore t a x=lift (eStore t a x):=by
 funext P call e s
 unfold fStore lift eStore
 rw[opd3_eq,opd3_eq,onSome_eq]
 cases opd a (ev3 e) with
 | none=>rfl
 | some p =>
  cases p with
  | ptr b o =>
   show onSome (opd x (ev3 e)) _ _=_
   rw[onSome_eq]
   cases opd x (ev3 e) with
   | none=>rfl
   | some v =>
    show onSome (tsize P t) _ _=_
    rw[onSome_eq]
    cases tsize P t with
    | none=>rfl
    | some n =>
     show (Bool.rec _ (store3 s b o (cells3 v) (.tup [])) (Nat.beq (cells3 v).length n):R AV)=_
     rw[store3_eq,cells3_eq]
     simp only[]
     cases Nat.beq v.cells.length n<;>rfl
  | _=>rfl
def fFieldAddr (t:TypeId) (x:Operand) (i:Nat):Br3:=fun P _ e s=>onSome (opd3 x e) (fun v=>onPtr v (fun b o=>onSome (tfplace P t i) (fun k=>.ok (.ptr b (Nat.add o k)) s) .fail) .fail) .fail
theorem fFieldAddr_eq (t:TypeId) (x:Operand) (i:Nat):fFieldAddr t x i=lift (eFieldAddr t x i):=by
 funext P call e s
 unfold fFieldAddr lift eFieldAddr
 rw[opd3_eq,onSome_eq]
 cases opd x (ev3 e) with
 | none=>rfl
 | some v =>
  cases v with
  | ptr b o =>
   show onSome (tfplace P t i) _ _=_
   rw[onSome_eq]
   cases tfplace P t i<;>rfl
  | _=>rfl
def idx3 (s:St) (te:Option (TypeId×Nat)) (b o n k:Nat):R AV:=Bool.rec .fail (onSome te (fun p=>onPair p fun _ z=>.ok (.ptr b (Nat.add o (Nat.mul k z))) s) .fail) (Nat.blt k n)
theorem idx3_eq (s:St) (te:Option (TypeId×Nat)) (b o n k:Nat):idx3 s te b o n k=idx s te b o n k:=by
 unfold idx3 idx
 cases Nat.blt k n<;>cases te<;>rfl
def fIndexAddr (t:TypeId) (x i:Operand):Br3:=fun P call e s=>onSome (opd3 x e) (fun v=>onSl v (fun b o n=>onSome (opd3 i e) (fun j=>onInt j (fun _ k=>Int.rec (fun k=>idx3 s (tel P t) b o n k) (fun _=>.fail) k) .fail) .fail) (eIndexAddr t x i P call (ev3 e) s)) .fail
theorem fIndexAddr_eq (t:TypeId) (x i:Operand):fIndexAddr t x i=lift (eIndexAddr t x i):=by
  funext P call e s
  unfold fIndexAddr lift
  rw[opd3_eq,opd3_eq,onSome_eq]
  have key:∀ b o n,onSome (opd i (ev3 e)) (fun j=>onInt j (fun _ k=>Int.rec (motive:=fun _=>R AV) (fun k=>idx3 s (tel P t) b o n k) (fun _=>.fail) k) .fail) .fail=match opd i (ev3 e) with|some (.int _ (.ofNat k))=>idx s (tel P t) b o n k|_=>.fail:=fun b o n=>by
    rw[onSome_eq]
    cases opd i (ev3 e) with
    | none=>rfl
    | some j =>
      cases j with
      | int q k =>
        cases k with
        | ofNat k=>exact idx3_eq _ _ _ _ _ _
        | negSucc k=>rfl
      | _=>rfl
  unfold eIndexAddr
  cases hx:opd x (ev3 e) with
  | none=>rfl
  | some v =>
    cases v with
    | sl b o n c =>
      refine(key b o n).trans ?_
      cases opd i (ev3 e) with
      | none=>rfl
      | some j=>cases j<;>first|rfl|(rename_i q k;cases k<;>rfl)
    | su b o n c =>
      refine(key b o n).trans ?_
      cases opd i (ev3 e) with
      | none=>rfl
      | some j=>cases j<;>first|rfl|(rename_i q k;cases k<;>rfl)
    | _=>first
      | rfl
      | (show eIndexAddr t x i P call (ev3 e) s=_
         unfold eIndexAddr
         rw[hx])
def fNilCheck (x:Operand):Br3:=fun P call e s=>onSome (opd3 x e) (fun v=>onPtr v (fun _ _=>.ok v s) (eNilCheck x P call (ev3 e) s)) .fail
theorem fNilCheck_eq (x:Operand):fNilCheck x=lift (eNilCheck x):=by
 funext P call e s
 unfold fNilCheck lift
 rw[opd3_eq,onSome_eq]
 cases hx:opd x (ev3 e) with
 | none=>unfold eNilCheck;rw[hx]
 | some v =>
  cases v with
  | ptr b o=>unfold eNilCheck;rw[hx];rfl
  | _=>rfl
def fExtract (x:Operand) (i:Nat):Br3:=fun _ _ e s=>onSome (opd3 x e) (fun v=>onTup v (fun l=>R.of s (nth l i)) .fail) .fail
theorem fExtract_eq (x:Operand) (i:Nat):fExtract x i=lift (eExtract x i):=by
 funext P call e s
 unfold fExtract lift eExtract
 rw[opd3_eq,onSome_eq]
 cases opd x (ev3 e) with
 | none=>rfl
 | some v =>
  cases v with
  | tup l=>show R.of s (nth l i)=_;rw[nth_eq]
  | _=>rfl
def new3 (s:St) (x:Blk):R AV:=onSt s fun h n lg=>.ok (.ptr n 0) ⟨h.set n (some x),Nat.succ n,lg⟩
theorem new3_eq (s:St) (x:Blk):new3 s x=.ok (.ptr s.n 0) (s.new x):=by cases s;rfl
def fBox (t:TypeId) (x:Operand):Br3:=fun _ _ e s=>onSome (opd3 x e) (fun v=>new3 s (.cells t (cells3 v))) .fail
theorem fBox_eq (t:TypeId) (x:Operand):fBox t x=lift (eBox t x):=by
 funext P call e s
 unfold fBox lift eBox
 rw[opd3_eq,onSome_eq]
 cases opd x (ev3 e) with
 | none=>rfl
 | some v=>show new3 s (.cells t (cells3 v))=_;rw[new3_eq,cells3_eq]
def fAlloc (t:TypeId):Br3:=fun P _ _ s=>onSome (tzero P t) (fun z=>new3 s (.cells t (cells3 z))) .fail
theorem fAlloc_eq (t:TypeId):fAlloc t=lift (eAlloc t):=by
 funext P call e s
 unfold fAlloc lift eAlloc
 rw[onSome_eq]
 cases tzero P t with
 | none=>rfl
 | some v=>show new3 s (.cells t (cells3 v))=_;rw[new3_eq,cells3_eq]
def opds3 (e:E3) (l:List Operand):Option (List AV) :=
 List.rec (motive:=fun _=>Option (List AV)) (some []) (fun x _ ih=>onSome (opd3 x e) (fun v=>onSome ih (fun r=>some (v::r)) none) none) l
theorem opds3_eq (e:E3):∀ l,opds3 e l=opds (ev3 e) l
 | []=>rfl
 | x::l=>by
  show onSome (opd3 x e) (fun v=>onSome (opds3 e l) (fun r=>some (v::r)) none) none=_
  rw[opds3_eq e l,opd3_eq,onSome_eq]
  simp only[opds]
  cases opd x (ev3 e) with
  | none=>rfl
  | some v =>
   show onSome (opds (ev3 e) l) _ _=_
   rw[onSome_eq]
   cases opds (ev3 e) l<;>rfl
def lenOf3 (P:Program) (ts:List TypeId):Nat:=match ts with
 | t::_=>match tdesc P t with
  | some .string=>1
  | some (.slice _)=>2
  | _=>0
 | []=>0
def len3 (P:Program) (s:St) (ts:List TypeId) (x:AV):R AV :=
 onSl x (fun _ _ n=>Bool.rec (evLen P s ts x) (.ok (.int .i64 (.ofNat n)) s) (Nat.beq (lenOf3 P ts) 2)) (onStr x (fun l=>Bool.rec (evLen P s ts x) (.ok (.int .i64 (.ofNat l.length)) s) (Nat.beq (lenOf3 P ts) 1)) (evLen P s ts x))
theorem len3_eq (P:Program) (s:St) (ts:List TypeId) (x:AV):len3 P s ts x=evLen P s ts x:=by
 unfold len3
 have key:∀ (q:Nat) (r:R AV),(Nat.beq (lenOf3 P ts) q=true→r=evLen P s ts x)→(Bool.rec (evLen P s ts x) r (Nat.beq (lenOf3 P ts) q):R AV)=evLen P s ts x:=fun q r h=>by
  cases hb:Nat.beq (lenOf3 P ts) q with
  | false=>rfl
  | true=>exact h hb
 have one:Nat.beq (lenOf3 P ts) 1=true→∃ t l,ts=t::l∧tdesc P t=some .string:=fun h=>by
  unfold lenOf3 at h
  split at h
  ·split at h
   ·rename_i hd;exact⟨_,_,rfl,hd⟩
   ·cases h
   ·cases h
  ·cases h
 have two:Nat.beq (lenOf3 P ts) 2=true→∃ t l u,ts=t::l∧tdesc P t=some (.slice u):=fun h=>by
  unfold lenOf3 at h
  split at h
  ·split at h
   ·cases h
   ·rename_i hd;exact⟨_,_,_,rfl,hd⟩
   ·cases h
  ·cases h
 cases x with
 | sl b o n c=>exact key 2 _ fun h=>by obtain⟨t,l,u,rfl,hd⟩:=two h;simp only[evLen,hd]
 | su b o n c=>exact key 2 _ fun h=>by obtain⟨t,l,u,rfl,hd⟩:=two h;simp only[evLen,hd]
 | str q=>exact key 1 _ fun h=>by obtain⟨t,l,rfl,hd⟩:=one h;simp only[evLen,hd]
 | _=>rfl
def isLen (b:Builtin):Bool:=match b with | .len=>true|_=>false
def one3 {β:Type} (l:List AV) (f:AV→β) (d:β):β:=List.rec (motive:=fun _=>(AV→β)→β→β) (fun _ d=>d) (fun x r _ f d=>List.rec (motive:=fun _=>AV→(AV→β)→β→β) (fun x f _=>f x) (fun _ _ _ _ _ d=>d) r x f d) l f d
def fCall (c:Call):Br3:=fun P call e s=>onSome (opds3 e c.args.toList) (fun args =>
 Callee.rec (motive:=fun _=>R AV) (fun f=>Operand.rec (motive:=fun _=>R AV) (fun _=>eCall c P call (ev3 e) s) (fun _=>eCall c P call (ev3 e) s) (fun _=>eCall c P call (ev3 e) s) (fun g=>call g args s) f)
  (fun _ _=>.fail) (fun b=>Bool.rec (evBuiltin P s b c.argTypes.toList args) (one3 args (fun x=>len3 P s c.argTypes.toList x) .fail) (isLen b)) c.callee) .fail
theorem fCall_eq (c:Call):fCall c=lift (eCall c):=by
  funext P call e s
  unfold fCall lift
  rw[opds3_eq,onSome_eq]
  cases ha:opds (ev3 e) c.args.toList with
  | none=>unfold eCall;rw[ha]
  | some args =>
    show (Callee.rec (motive:=fun _=>R AV) _ _ _ c.callee:R AV)=_
    cases hc:c.callee with
    | value f =>
      cases f with
      | func g =>
        show call g args s=_
        unfold eCall
        rw[ha,hc]
        show _=call g (([]++args)++[]) s
        simp
      | _=>rfl
    | invoke r m=>unfold eCall;rw[ha,hc]
    | builtin b =>
      show (Bool.rec _ _ (isLen b):R AV)=_
      have e1:eCall c P call (ev3 e) s=evBuiltin P s b c.argTypes.toList args:=by unfold eCall;rw[ha,hc]
      rw[e1]
      cases b<;>first
        | rfl
        | (show one3 args (fun x=>len3 P s c.argTypes.toList x) .fail=_
           match args with
           | []=>rfl
           | [x]=>show len3 P s c.argTypes.toList x=_;rw[len3_eq];rfl
           | _::_::_=>rfl)
def evOp3 (op:Op):Br3 :=
 Op.rec (motive:=fun _=>Br3) fMove fMove fPick fAlloc fBox (fun t p=>lift (eBuild t p)) (fun t l p=>lift (eBuildSlice t l p)) (fun t m k x=>lift (eMapUpdate t m k x)) fLoad fStore (fun _=>lift eNo) (fun _=>lift eNo) fNilCheck fBinOp fUnOp (fun a b x=>lift (eConvert a b x)) (fun _ _=>lift eNo)
  (fun t x=>lift (eMakeI t x)) (fun f a b=>lift (eMakeF f a b)) (fun t r=>lift (eMakeMap t r)) (fun _ _=>lift eNo) (fun t l c=>lift (eMakeSlice t l c)) (fun t x a b c=>lift (eSlice t x a b c)) fFieldAddr (fun t x i=>lift (eField t x i)) fIndexAddr (fun t x i=>lift (eIndex t x i)) (fun t x k o=>lift (eLookup t x k o)) (fun t m k x=>lift (eMapUpdate t m k x)) (fun t m k=>lift (eMapEntry t m k)) (fun t m s x=>lift (eEntryStore t m s x)) (fun t x=>lift (eRange t x)) (fun i b=>lift (eNext i b)) (fun i=>lift (eEntry i)) (fun _ _ _ _=>lift eNo) fExtract fCall
  (fun _=>lift eNo) (fun _=>lift eNo) (fun _=>lift eNo) (fun _ _=>lift eNo) (fun _ _ _=>lift eNo) (fun _ _=>lift eNo) op
theorem evOp3_eq (op:Op):evOp3 op=lift (evOp op):=by
 cases op with
 | binOp op t x y u=>exact fBinOp_eq op t x y u
 | unOp op t x=>exact fUnOp_eq op t x
 | _=>first
  | rfl
  | exact fMove_eq _
  | exact fPick_eq _ _ _
  | exact fAlloc_eq _
  | exact fBox_eq _ _
  | exact fLoad_eq _ _
  | exact fStore_eq _ _ _
  | exact fNilCheck_eq _
  | exact fFieldAddr_eq _ _ _
  | exact fIndexAddr_eq _ _ _
  | exact fExtract_eq _ _
  | exact fCall_eq _
end
end Go.Ev
