/- Parts of this proof, one behind the other: SynL. -/
import Derived.Test.YtgbgiknfejpcoaaGreatPx5
set_option maxRecDepth 1000000
set_option maxHeartbeats 40000000
namespace Go.Proofs.YtgbgiknfejpcoaaGreat
open Go.RowKit Go.Afx
theorem builtC2_any (F:Nat→Prop) (d:Nat) (ih:BuiltsE F d) (e:Ex) (row:List Value) (w:World) (h:ExAt F d w row e) :
  Calls Tryz.prog 179 #[.agg row.toArray] w fun x w'=>x=.returned (.bool (!builtE d e))∧Below w.heap.size w w':=by
 cases d with
 | zero=>exact h.elim
 | succ d =>
  have h':=h
  obtain⟨A,m,c,rfl,hl⟩:=h.open_.2.2.2.2.2
  have hb1:Below w.heap.size w (w.alloc (.cells #[.int .i64 e.op,.int .i64 e.n,.string e.s,.string e.name,.string e.src,.slice A m c] 60)):=(Below.refl _ _).alloc (Nat.le_refl _) _
  have Hc:=Lhd (ih e _ _ (h'.below hb1))
  generalize builtE (d+1) e=r at *
  go_enter Tryz.func179,Tryz.ntmps179
  go_wp2_with (go_at_call 73;refine Hc.out.mono ?_;rintro x w1 ⟨rfl,hb⟩)
  go_ret
  exact⟨ret_bool (by simp),hb1.trans (hb.mono hb1.size)⟩
theorem indexBuilt2_any (F:Nat→Prop) (d:Nat) (ih:BuiltsE F d) (A:Option Addr) (n c:Nat) (es:List Ex) (w:World) (h:ExsAt F d w A n c es) :
  Calls Tryz.prog 165 #[.slice A n c,.func (.func 179) #[] #[]] w fun x w'=>x=.returned (.int .i64 (posB (fun e=>!builtE d e) es))∧Below w.heap.size w w':=by
 have hn:=LsAt.n_le h
 have Hl:=Lhd (LsAt.len h)
 go_enter Tryz.func165,Tryz.ntmps165
 go_wp2
 go_loopw [8] (fun i wr=>∃ k:Nat,k≤n∧i=.int .i64 k∧(∀ y∈es.take k,(!builtE d y)=false)∧Below w.heap.size w wr) (fun i _=>n-(intOf i).toNat)
 case atStart=>exact⟨0,Nat.zero_le _,rfl,by simp,Below.refl _ _⟩
 case round =>
  obtain⟨k,hk,rfl,hall,hb⟩:=hrel
  have Hall:=Lhd hall;clear hall
  by_cases hlt:k<n
  ·cases d with
   | zero =>
    obtain⟨b,o,r,e,hA,hbl,_,he,hl,hp,hc⟩:=LsAt.get (h.below hb) hlt
    exact hp.elim
   | succ d =>
    obtain⟨b,o,e,A2,m2,c2,rfl,hbl,hx,hc0,hc1,hc2,hc3,hc4,hc5,hp,_⟩:=ExsAt.get (h.below hb) hlt
    have hc:=builtC2_any F (d+1) ih e _ wr hp
    obtain⟨q,hq⟩:∃ q,(!builtE (d+1) e)=q:=⟨_,rfl⟩
    rw[hq] at hc
    have Hc:=Lhd hc
    have Hq:=Lhd hq
    have Hx:=Lhd hx
    clear hc hq hx
    cases q
    ·have Hnx:=Lhd (mem_take_succ Hx.out Hall.out Hq.out)
     go_wp2_with (go_at_call 179;refine Hc.out.mono ?_;rintro y w1 ⟨rfl,hb1⟩)
     go_roundw
     case rel=>exact⟨k+1,by omega,by go_num,Hnx.out,hb.trans (hb1.mono hb.size)⟩
     case measure=>simp[intOf];omega
    ·have Hf:=Lhd (posB_yes (p:=fun e=>!builtE (d+1) e) Hx.out Hq.out Hall.out)
     go_wp2_with (go_at_call 179;refine Hc.out.mono ?_;rintro y w1 ⟨rfl,hb1⟩)
     go_ret
     exact⟨by rw[Hf.out];rfl,hb.trans (hb1.mono hb.size)⟩
  ·go_wp2
   go_ret
   have h1:=Hall.out
   rw[List.take_of_length_le (by rw[Hl.out];omega)] at h1
   exact⟨by rw[posB_no h1];rfl,hb⟩
theorem containsBuilt2_any (F:Nat→Prop) (d:Nat) (ih:BuiltsE F d) (A:Option Addr) (n c:Nat) (es:List Ex) (w:World) (h:ExsAt F d w A n c es) :
  Calls Tryz.prog 118 #[.slice A n c,.func (.func 179) #[] #[]] w fun x w'=>x=.returned (.bool (!es.all (builtE d)))∧Below w.heap.size w w':=by
 have hi:=indexBuilt2_any F d ih A n c es w h
 have hp:=posB_any (fun e=>!builtE d e) es
 have hq:(es.any fun e=>!builtE d e) = !es.all (builtE d):=by
  induction es with
  | nil=>rfl
  | cons a r _=>simp[List.any_eq_not_all_not]
 rw[hq] at hp
 generalize es.all (builtE d)=r at *
 generalize posB (fun e=>!builtE d e) es=i at *
 have Hp:=Lhd hp
 have Hi:=Lhd hi
 clear hp hi hq
 go_enter Tryz.func118,Tryz.ntmps118
 go_wp2_with (go_at_call 165;refine Hi.out.mono ?_;rintro x w' ⟨rfl,hb⟩)
 go_ret
 exact⟨ret_bool Hp.out,hb⟩
def BuiltsS (F:Nat→Prop) (d:Nat):Prop:=∀ (e:St) (row:List Value) (w:World),StAt F d w row e →
 Calls Tryz.prog 140 #[.agg row.toArray] w fun x w'=>x=.returned (.bool (builtS d e))∧Below w.heap.size w w'
theorem blocksC_any (F:Nat→Prop) (d:Nat) (ih:BuiltsS F d) (e:St) (row:List Value) (w:World) (h:StAt F d w row e) :
  Calls Tryz.prog 139 #[.agg row.toArray] w fun x w'=>x=.returned (.bool (!builtS d e))∧Below w.heap.size w w':=by
 cases d with
 | zero=>exact h.elim
 | succ d =>
  have h':=h
  obtain⟨Ac,nc,cc,Ae,ne,ce,Ab,nb,cb,Al,nl,cl,rfl,_⟩:=h.open_.2.2.2.2
  have hb1:Below w.heap.size w (w.alloc (.cells #[.int .i64 e.op,.string e.name,.string e.src,.int .i64 e.n,.slice Ac nc cc,.slice Ae ne ce,.slice Ab nb cb,.slice Al nl cl] 73)):=(Below.refl _ _).alloc (Nat.le_refl _) _
  have Hc:=Lhd (ih e _ _ (h'.below hb1))
  generalize builtS (d+1) e=r at *
  go_enter Tryz.func139,Tryz.ntmps139
  go_wp2_with (go_at_call 140;refine Hc.out.mono ?_;rintro x w1 ⟨rfl,hb⟩)
  go_ret
  exact⟨ret_bool (by simp),hb1.trans (hb.mono hb1.size)⟩
theorem indexBlocks_any (F:Nat→Prop) (d:Nat) (ih:BuiltsS F d) (A:Option Addr) (n c:Nat) (es:List St) (w:World) (h:StsAt F d w A n c es) :
  Calls Tryz.prog 177 #[.slice A n c,.func (.func 139) #[] #[]] w fun x w'=>x=.returned (.int .i64 (posB (fun e=>!builtS d e) es))∧Below w.heap.size w w':=by
 have hn:=LsAt.n_le h
 have Hl:=Lhd (LsAt.len h)
 go_enter Tryz.func177,Tryz.ntmps177
 go_wp2
 go_loopw [8] (fun i wr=>∃ k:Nat,k≤n∧i=.int .i64 k∧(∀ y∈es.take k,(!builtS d y)=false)∧Below w.heap.size w wr) (fun i _=>n-(intOf i).toNat)
 case atStart=>exact⟨0,Nat.zero_le _,rfl,by simp,Below.refl _ _⟩
 case round =>
  obtain⟨k,hk,rfl,hall,hb⟩:=hrel
  have Hall:=Lhd hall;clear hall
  by_cases hlt:k<n
  ·cases d with
   | zero =>
    obtain⟨b,o,r,e,hA,hbl,_,he,hl,hp,hc⟩:=LsAt.get (h.below hb) hlt
    exact hp.elim
   | succ d =>
    obtain⟨b,o,e,Ac,nc,cc,Ae,ne,ce,Ab,nb,cb,Al,nl,cl,rfl,hbl,hx,hc0,hc1,hc2,hc3,hc4,hc5,hc6,hc7,hp,_⟩:=StsAt.get (h.below hb) hlt
    have hc:=blocksC_any F (d+1) ih e _ wr hp
    obtain⟨q,hq⟩:∃ q,(!builtS (d+1) e)=q:=⟨_,rfl⟩
    rw[hq] at hc
    have Hc:=Lhd hc
    have Hq:=Lhd hq
    have Hx:=Lhd hx
    clear hc hq hx
    cases q
    ·have Hnx:=Lhd (mem_take_succ Hx.out Hall.out Hq.out)
     go_wp2_with (go_at_call 139;refine Hc.out.mono ?_;rintro y w1 ⟨rfl,hb1⟩)
     go_roundw
     case rel=>exact⟨k+1,by omega,by go_num,Hnx.out,hb.trans (hb1.mono hb.size)⟩
     case measure=>simp[intOf];omega
    ·have Hf:=Lhd (posB_yes (p:=fun e=>!builtS (d+1) e) Hx.out Hq.out Hall.out)
     go_wp2_with (go_at_call 139;refine Hc.out.mono ?_;rintro y w1 ⟨rfl,hb1⟩)
     go_ret
     exact⟨by rw[Hf.out];rfl,hb.trans (hb1.mono hb.size)⟩
  ·go_wp2
   go_ret
   have h1:=Hall.out
   rw[List.take_of_length_le (by rw[Hl.out];omega)] at h1
   exact⟨by rw[posB_no h1];rfl,hb⟩
theorem containsBlocks_any (F:Nat→Prop) (d:Nat) (ih:BuiltsS F d) (A:Option Addr) (n c:Nat) (es:List St) (w:World) (h:StsAt F d w A n c es) :
  Calls Tryz.prog 138 #[.slice A n c,.func (.func 139) #[] #[]] w fun x w'=>x=.returned (.bool (!es.all (builtS d)))∧Below w.heap.size w w':=by
 have hi:=indexBlocks_any F d ih A n c es w h
 have hp:=posB_any (fun e=>!builtS d e) es
 have hq:(es.any fun e=>!builtS d e) = !es.all (builtS d):=by
  induction es with
  | nil=>rfl
  | cons a r _=>simp[List.any_eq_not_all_not]
 rw[hq] at hp
 generalize es.all (builtS d)=r at *
 generalize posB (fun e=>!builtS d e) es=i at *
 have Hp:=Lhd hp
 have Hi:=Lhd hi
 clear hp hi hq
 go_enter Tryz.func138,Tryz.ntmps138
 go_wp2_with (go_at_call 177;refine Hi.out.mono ?_;rintro x w' ⟨rfl,hb⟩)
 go_ret
 exact⟨ret_bool Hp.out,hb⟩
theorem blocks_of (F:Nat→Prop) (d:Nat) (ih:BuiltsS F d) (A:Option Addr) (n c:Nat) (es:List St) (w:World) (h:StsAt F d w A n c es) :
  Calls Tryz.prog 86 #[.slice A n c] w fun x w'=>x=.returned (.bool (es.all (builtS d)))∧Below w.heap.size w w':=by
 have Hc:=Lhd (containsBlocks_any F d ih A n c es w h)
 generalize es.all (builtS d)=r at *
 go_enter Tryz.func86,Tryz.ntmps86
 go_wp2_with (go_at_call 138;refine Hc.out.mono ?_;rintro x w1 ⟨rfl,hb⟩)
 go_ret
 exact⟨ret_bool (by simp),hb⟩
theorem builtS_any (F:Nat→Prop) (d:Nat):BuiltsS F d:=by
 induction d with
 | zero=>intro e row w h;exact h.elim
 | succ d ih =>
  intro e row w h
  obtain⟨ho,hn,hnm,hsr,Ac,nc,cc,Ae,ne,ce,Ab,nb,cb,Al,nl,cl,rfl,hcl,hel,hbl,hll⟩:=h.open_
  have hx1:IsBlk (w.alloc (.cells #[.int .i64 e.op,.string e.name,.string e.src,.int .i64 e.n,.slice Ac nc cc,.slice Ae ne ce,.slice Ab nb cb,.slice Al nl cl] 73)) w.heap.size 73 #[.int .i64 e.op,.string e.name,.string e.src,.int .i64 e.n,.slice Ac nc cc,.slice Ae ne ce,.slice Ab nb cb,.slice Al nl cl]:=IsBlk.laid _ _ _
  have hX:Below (w.heap.size+1) (w.alloc (.cells #[.int .i64 e.op,.string e.name,.string e.src,.int .i64 e.n,.slice Ac nc cc,.slice Ae ne ce,.slice Ab nb cb,.slice Al nl cl] 73)) (w.alloc (.cells #[.int .i64 e.op,.string e.name,.string e.src,.int .i64 e.n,.slice Ac nc cc,.slice Ae ne ce,.slice Ab nb cb,.slice Al nl cl] 73)):=Below.refl _ _
  have hb1:Below w.heap.size w (w.alloc (.cells #[.int .i64 e.op,.string e.name,.string e.src,.int .i64 e.n,.slice Ac nc cc,.slice Ae ne ce,.slice Ab nb cb,.slice Al nl cl] 73)):=(Below.refl _ _).alloc (Nat.le_refl _) _
  have Hx:=Lhd (fun W (hW:Below (w.heap.size+1) (w.alloc (.cells #[.int .i64 e.op,.string e.name,.string e.src,.int .i64 e.n,.slice Ac nc cc,.slice Ae ne ce,.slice Ab nb cb,.slice Al nl cl] 73)) W)=>stBox (hx1.as_was (hW.block _ (Nat.lt_succ_self _))))
  have HB:=Lhd (fun W (hW:Below (w.heap.size+1) (w.alloc (.cells #[.int .i64 e.op,.string e.name,.string e.src,.int .i64 e.n,.slice Ac nc cc,.slice Ae ne ce,.slice Ab nb cb,.slice Al nl cl] 73)) W)=>hb1.trans (hW.mono (by simp)))
  have Hs:=Lhd (fun W (hW:Below w.heap.size w W)=>shape_any F e.name e.src e.n Ac Ae Ab Al nc cc ne ce nb cb nl cl e.cols W e.op (hcl.below hW) hnm hsr)
  have He:=Lhd (fun W (hW:Below w.heap.size w W)=>containsBuilt2_any F d (builtE_any F d) Ae ne ce e.exprs W (hel.below hW))
  have Hb:=Lhd (fun W (hW:Below w.heap.size w W)=>blocks_of F d ih Ab nb cb e.body W (hbl.below hW))
  have Hl:=Lhd (fun W (hW:Below w.heap.size w W)=>blocks_of F d ih Al nl cl e.els W (hll.below hW))
  have hfin:builtS (d+1) e=(shapeR e.op e.name e.src e.n e.cols ne nb nl&&e.exprs.all (builtE d)&&e.body.all (builtS d)&&e.els.all (builtS d)):=by
   rw[builtS,shapeB,LsAt.len hel,LsAt.len hbl,LsAt.len hll]
  generalize shapeR e.op e.name e.src e.n e.cols ne nb nl=qs at *
  generalize e.exprs.all (builtE d)=qe at *
  generalize e.body.all (builtS d)=qb at *
  generalize e.els.all (builtS d)=ql at *
  generalize builtS (d+1) e=fin at *
  have Hfin:=Lhd hfin
  clear hfin hx1 hcl hel hbl hll ih
  cases qs<;>cases qe<;>cases qb
  all_goals
   go_enter Tryz.func140,Tryz.ntmps140
   go_wp2_with (first|(go_at_call 178;refine(Hs.out _ (HB.out _ hX)).mono ?_;rintro x w2 ⟨rfl,hb2⟩;replace hX:=hX.trans (hb2.mono (by first|(simp;done)|(have:=hX.size;simp at this;omega)));obtain⟨x1,x2,x3,x4,x5,x6,x7,xl⟩:=Hx.out _ hX)|(go_at_call 118;refine(He.out _ (HB.out _ hX)).mono ?_;rintro x w3 ⟨rfl,hb3⟩;replace hX:=hX.trans (hb3.mono (by first|(simp;done)|(have:=hX.size;simp at this;omega)));obtain⟨x1,x2,x3,x4,x5,x6,x7,xl⟩:=Hx.out _ hX)|(go_at_call 86;with_reducible refine(Hb.out _ (HB.out _ hX)).mono ?_;rintro x w4 ⟨rfl,hb4⟩;replace hX:=hX.trans (hb4.mono (by first|(simp;done)|(have:=hX.size;simp at this;omega)));obtain⟨x1,x2,x3,x4,x5,x6,x7,xl⟩:=Hx.out _ hX)|(go_at_call 86;with_reducible refine(Hl.out _ (HB.out _ hX)).mono ?_;rintro x w5 ⟨rfl,hb5⟩;replace hX:=hX.trans (hb5.mono (by first|(simp;done)|(have:=hX.size;simp at this;omega)));obtain⟨x1,x2,x3,x4,x5,x6,x7,xl⟩:=Hx.out _ hX))
   go_ret
   exact⟨ret_bool (by rw[Hfin.out];simp),HB.out _ hX⟩
theorem blocks_any (F:Nat→Prop) (d:Nat) (A:Option Addr) (n c:Nat) (es:List St) (w:World) (h:StsAt F d w A n c es) :
  Calls Tryz.prog 86 #[.slice A n c] w fun x w'=>x=.returned (.bool (es.all (builtS d)))∧Below w.heap.size w w':=blocks_of F d (builtS_any F d) A n c es w h
end Go.Proofs.YtgbgiknfejpcoaaGreat
