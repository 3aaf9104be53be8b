/- Parts of this proof, one behind the other: PrtA, PrtB, PrtC, PrtD, PrtE, PrtF. -/
import Derived.Test.YtdgapmnojmhllaaGreatDoorPf1
import Derived.Test.YtdgapmnojmhllaaGreatDoorPf13
import Derived.Test.YtdgapmnojmhllaaGreatDoorProg
import Derived.Laws.IdiomStrings
import Derived.WalkLawsBesides
import Derived.Lib.Hide
import Derived.Outline
import Derived.Lib.Builder
import Derived.Lib.AppendStr
import Derived.Lib.UnsafeStr
import Derived.Laws.Externs
import Derived.Laws.IdiomCopy
import Derived.Lib.Strings
import Derived.Defers
import Derived.Test.YtdgapmnojmhllaaGreatDoorShelfR
import Derived.Lib.Replace
import Derived.Deep.Cut
import Derived.Deep.RegionHeld3
import Derived.RegionTactic
import Derived.ChangeAlike
set_option maxRecDepth 1000000
set_option maxHeartbeats 40000000
namespace Go.Proofs.YtdgapmnojmhllaaGreatDoor
open Go.RowKit Go.Afx
theorem size_nn (n:Int) (w:World) (h0:0≤n) (h1:n≤9223372036854775807):Calls Tryz.prog 94 #[.int .i64 n] w fun e w'=>e=.returned (.int .u64 n)∧w=w':=by
 have e:IntKind.u64.wrap n=n:=by simp only[IntKind.wrap,IntKind.bits,IntKind.signed];simp;omega
 go_enter Tryz.func94,Tryz.ntmps94
 go_wp2
 go_ret
 exact⟨rfl,rfl⟩
structure DigsIn (n:Nat) (g:Nat) (w:World) (wr:World) (a u:Nat):Prop where
 low:Below g w wr
 at_:a≤20
 fits:u<10 ^ (a-1)
 cells:∃ cs:Array Value,IsBlk wr g 156 cs∧cs.size=20∧∃ tl:List UInt8,tl.length=20-a∧digs n=digs u++tl∧∀ j,j<tl.length→cs[a+j]?=some (.int .u8 ((tl.getD j 0).toNat:Int))
theorem u8_digit (u:Nat):((UInt8.ofNat (48+u % 10)).toNat:Int)=48+(u:Int) % 10:=by
 rw[UInt8.toNat_ofNat']
 omega
theorem DigsIn.step {n g:Nat} {w wr:World} {b u:Nat} (h:DigsIn n g w wr (b+1) u) (hu:0<u):DigsIn n g w (wr.setCell ⟨g,b,none⟩ (.int .u8 (48+(u:Int) % 10))) b (u / 10):=by
 obtain⟨cs,hx,hsz,tl,htl,hdg,hcs⟩:=h.cells
 have ha:=h.at_
 refine⟨h.low.setCell (p:=⟨g,b,none⟩) (Nat.le_refl _) _,by omega,?_,_,hx.stored b _,by simp[hsz],UInt8.ofNat (48+u % 10)::tl,by simp[htl];omega,?_,fun j hj=>?_⟩
 ·have hf:=h.fits
  rw[Nat.add_sub_cancel] at hf
  rcases Nat.eq_zero_or_pos b with rfl|hb
  ·simp at hf;omega
  ·obtain⟨c,rfl⟩:∃ c,b=c+1:=⟨b-1,by omega⟩
   rw[Nat.pow_succ] at hf
   rw[Nat.add_sub_cancel]
   omega
 ·rw[hdg,digs_pos hu,List.append_assoc]
  rfl
 ·cases j with
  | zero =>
   rw[Nat.add_zero,Array.getElem?_setIfInBounds_self_of_lt (by omega)]
   rw[List.getD_cons_zero,u8_digit]
  | succ j =>
   have h1:=hcs j (by simpa using hj)
   rw[Array.getElem?_setIfInBounds_ne (by omega),List.getD_cons_succ,← h1]
   congr 1
   omega
theorem digs_room {a u:Nat} (h:u<10 ^ (a-1)) (hu:0<u):2≤a:=by
 rcases Nat.lt_or_ge a 2 with h1|h1
 ·have:a-1=0:=by omega
  rw[this] at h
  simp at h
  omega
 ·exact h1
theorem calcPrint_any (n : Int) (w : World) (h0 : 0 ≤ n) (h1 : n ≤ 9223372036854775807):Calls Tryz.prog 47 #[.int .i64 n] w fun e w'=>e=.returned (.string ⟨(decS n).toArray⟩)∧Below w.heap.size w w':=by
  by_cases hz:n=0
  · subst hz
    go_enter Tryz.func47,Tryz.ntmps47
    go_wp2
    go_ret
    exact⟨rfl,Below.refl _ _⟩
  have hd:(n==0)=false:=by simpa using hz
  have hn:¬ n<0:=by omega
  have Hz:=Lhd hz
  clear hz
  go_enter Tryz.func47,Tryz.ntmps47
  go_wp2_with (go_at_call 94;refine(size_nn n _ h0 h1).mono ?_;rintro e w' ⟨rfl,rfl⟩)
  have hx0:=IsBlk.laid w 156 #[.int .u8 0,.int .u8 0,.int .u8 0,.int .u8 0,.int .u8 0,.int .u8 0,.int .u8 0,.int .u8 0,.int .u8 0,.int .u8 0,.int .u8 0,.int .u8 0,.int .u8 0,.int .u8 0,.int .u8 0,.int .u8 0,.int .u8 0,.int .u8 0,.int .u8 0,.int .u8 0]
  have hstart:DigsIn n.toNat w.heap.size w (w.alloc (.cells #[.int .u8 0,.int .u8 0,.int .u8 0,.int .u8 0,.int .u8 0,.int .u8 0,.int .u8 0,.int .u8 0,.int .u8 0,.int .u8 0,.int .u8 0,.int .u8 0,.int .u8 0,.int .u8 0,.int .u8 0,.int .u8 0,.int .u8 0,.int .u8 0,.int .u8 0,.int .u8 0] 156)) 20 n.toNat :=
    ⟨(Below.refl _ _).alloc (Nat.le_refl _) _, Nat.le_refl _, by have:(10:Nat) ^ (20-1)=10000000000000000000:=by decide
                                                                 omega,_,hx0,rfl,[],rfl,by simp,fun j hj=>by simp at hj⟩
  have Hst:=Lhd hstart
  obtain⟨N,rfl⟩:∃ N:Nat,n=(N:Int):=⟨n.toNat,by omega⟩
  clear hx0 hstart
  go_loopw [4,5] (fun a u wr=>∃ (k m:Nat),a=.int .i64 k∧u=.int .u64 m∧m≤N∧DigsIn N w.heap.size w wr k m) (fun _ u _=>(intOf u).toNat)
  case atStart=>exact⟨20,N,rfl,rfl,Nat.le_refl _,Hst.out⟩
  case round =>
    obtain⟨a,u,rfl,rfl,hle,hD⟩:=hrel
    have HD:=Lhd hD
    by_cases hu:0<u
    · have h2:=digs_room hD.fits hu
      obtain⟨b,rfl⟩:∃ b,a=b+1:=⟨a-1,by omega⟩
      have hb20:=hD.at_
      obtain⟨cs,hx,hsz,tl,htl,hdg,hcs⟩:=hD.cells
      have hlt:=hx.lt
      have hcell:wr.cell? ⟨w.heap.size,b,none⟩=some (cs[b]'(by omega)):=by rw[hx.cell];exact Array.getElem?_eq_getElem _
      have hfz:=hx.frozen
      have Hx:=Lhd hx
      have Hc:=Lhd hcs
      have Hd:=Lhd hdg
      have Htl:=Lhd htl
      have e1:IntKind.u8.wrap (48+(u:Int) % 10)=48+(u:Int) % 10:=by simp only[IntKind.wrap,IntKind.bits,IntKind.signed];simp;omega
      have Hsz:=Lhd hsz
      generalize cs[b]'(by omega)=old at *
      clear hx hcs hdg htl hD hsz
      go_wp2
      go_roundw
      case rel=>exact⟨b,u / 10,rfl,by go_num,Nat.le_trans (Nat.div_le_self _ _) hle,HD.out.step hu⟩
      case measure=>simp[intOf];omega
    · obtain rfl:u=0:=by omega
      have ha20:=hD.at_
      obtain⟨cs,hx,hsz,tl,htl,hdg,hcs⟩:=hD.cells
      have hdg':decS (N:Int)=tl:=by
        unfold decS
        rw[if_neg Hz.out,Int.toNat_natCast,hdg,digs_zero,List.nil_append]
      have hcv:=fun (src:TypeId) (hs:Tryz.prog.underlying src=some (.slice 5))=>run_convert_bytes_back (P:=Tryz.prog) wr src 9 5 ⟨w.heap.size,a,none⟩ (20-a) tl hs Tryz.underlying5 Tryz.underlying9 (fun j hj=>by
        have h:=hcs j hj
        have e:((⟨w.heap.size,a,none⟩:Addr).add j)=⟨w.heap.size,a+j,none⟩:=by
          unfold Addr.add
          split
          · rename_i h0;subst h0;rfl
          · rfl
        rw[e,hx.cell,h,List.getD_eq_getElem?_getD,List.getElem?_eq_getElem hj]
        rfl)
      rw[htl] at hcv
      have Hcv:=Lhd (hcv 95 Tryz.underlying95)
      have Hlow:=Lhd hD.low
      have hf:=Hcv.out
      have i1:(0:Int)≤(a:Int):=by omega
      have i2:(a:Int)≤20:=by omega
      have ha:a<20:=by
        have hN:0<N:=by have:=Hz.out;omega
        have h:=hdg
        rw[digs_zero,List.nil_append,digs_pos hN] at h
        have h2:tl.length≠0:=by rw[← h];simp
        omega
      have ha2:¬ a=20:=by omega
      have ha3:¬ 20=a:=by omega
      have hd2:decide ((N:Int)<0)=false:=by simp
      have Hdg:=Lhd hdg'
      clear hcv hcs hx hdg htl hD hdg'
      go_wp2
      go_ret
      exact⟨by rw[Hdg.out];rfl,Hlow.out⟩
def WtIn (g:Nat) (t:List UInt8) (br:Bool) (p:Option Addr) (w:World):Prop :=
 ∃ (A:Option Addr) (c:Nat),IsBlk w g 99 #[.pointer p,.slice A t.length c,.bool br]∧w.ownsRow (g+1) 5 1 (.slice A t.length c) t.length (Lib.byteCells t)
def WtAt (g:Nat) (t:List UInt8) (br:Bool) (w:World):Prop:=WtIn g t br none w∨WtIn g t br (some ⟨g,0,none⟩) w
def KeepT (w w':World):Prop:=w.heap.size≤w'.heap.size∧∀ (b:Nat) (T:TypeId) (cs:Array Value),T≠99→T≠5→IsBlk w b T cs→IsBlk w' b T cs
def Wrote (g:Nat) (w w':World):Prop:=Below g w w'∧KeepT w w'
theorem KeepT.refl (w:World):KeepT w w:=⟨Nat.le_refl _,fun _ _ _ _ _ h=>h⟩
theorem KeepT.trans {a b c:World} (h:KeepT a b) (k:KeepT b c):KeepT a c:=⟨Nat.le_trans h.1 k.1,fun i T cs h1 h2 hb=>k.2 i T cs h1 h2 (h.2 i T cs h1 h2 hb)⟩
theorem KeepT.of_below {a b:World} (h:Below a.heap.size a b):KeepT a b:=⟨h.size,fun _ _ _ _ _ hb=>hb.as_was (h.block _ hb.lt)⟩
theorem Wrote.refl (g:Nat) (w:World):Wrote g w w:=⟨Below.refl _ _,KeepT.refl _⟩
theorem Wrote.trans {g:Nat} {a b c:World} (h:Wrote g a b) (k:Wrote g b c):Wrote g a c:=⟨h.1.trans k.1,h.2.trans k.2⟩
theorem Wrote.of_below {g:Nat} {a b:World} (hg:g≤a.heap.size) (h:Below a.heap.size a b):Wrote g a b:=⟨h.mono hg,KeepT.of_below h⟩
theorem Wrote.alloc {g:Nat} {a b:World} (h:Wrote g a b) (hg:g≤b.heap.size) (o:Obj):Wrote g a (b.alloc o):=h.trans (Wrote.of_below hg ((Below.refl _ _).alloc (Nat.le_refl _) o))
theorem WtIn.lt {g:Nat} {t:List UInt8} {br:Bool} {p:Option Addr} {w:World} (h:WtIn g t br p w):g<w.heap.size:=by
 obtain⟨A,c,hb,_⟩:=h
 exact hb.lt
theorem WtAt.lt {g:Nat} {t:List UInt8} {br:Bool} {w:World} (h:WtAt g t br w):g<w.heap.size:=h.elim WtIn.lt WtIn.lt
theorem WtIn.below {g:Nat} {t:List UInt8} {br:Bool} {p:Option Addr} {w w':World} (h:WtIn g t br p w) (hb:Below w.heap.size w w'):WtIn g t br p w':=by
 obtain⟨A,c,hk,ho⟩:=h
 exact⟨A,c,hk.as_was (hb.block _ hk.lt),own_below ho hb⟩
theorem WtAt.below {g:Nat} {t:List UInt8} {br:Bool} {w w':World} (h:WtAt g t br w) (hb:Below w.heap.size w w'):WtAt g t br w':=h.imp (fun x=>x.below hb) (fun x=>x.below hb)
theorem wtBox {w:World} {g:Nat} {T:TypeId} {v0 v1 v2:Value} (h:IsBlk w g T #[v0,v1,v2]):w.cell? ⟨g,0,none⟩=some v0∧w.cell? ⟨g,1,none⟩=some v1∧w.cell? ⟨g,2,none⟩=some v2∧g<w.heap.size∧w.shape? g=some (T,3):=by
 have h0:=h.cell 0;have h1:=h.cell 1;have h2:=h.cell 2
 simp at h0 h1 h2
 exact⟨h0,h1,h2,h.lt,by unfold IsBlk at h;simp[World.shape?,h]⟩
theorem keep_writer {w:World} {g:Nat} {cs:Array Value} {i:Nat} {u:Value} (h:IsBlk w g 99 cs):KeepT w (w.setCell ⟨g,i,none⟩ u) :=
 ⟨by simp[World.setCell],fun b T c1 h1 _ hb=>hb.elsewhere (fun e=>h1 (by
  have e:b=g:=e
  subst e
  unfold IsBlk at h hb
  rw[h] at hb
  injection hb with hb
  injection hb with _ h2
  exact h2.symm)) _⟩
theorem sizeBld:(Tryz.prog.info? 97).map (·.size)=some 2:=by kernel_rfl
theorem liesBld:liesAt Tryz.prog Tryz.prog.depth 99 (3 / Tryz.prog.cellsOf 99) 0 97 1=true:=by kernel_rfl
theorem copyCheck_any (g:Nat) (t:List UInt8) (br:Bool) (w:World) (h:WtAt g t br w) :
  Calls Tryz.prog 135 #[.pointer (some ⟨g,0,none⟩)] w fun e w'=>e=.returned (.tuple #[])∧WtIn g t br (some ⟨g,0,none⟩) w'∧Wrote g w w':=by
 obtain⟨j,hj,hjs⟩:=Option.map_eq_some_iff.1 sizeBld
 rcases h with h|h
 ·obtain⟨A,c,hk,ho⟩:=h
  have Hk:=Lhd hk
  have Ho:=Lhd ho
  obtain⟨c0,c1,c2,hlt,hsh⟩:=wtBox hk
  have hfz:=hk.frozen 0
  have k1:=Lib.run_to_unsafe (P:=Tryz.prog) (w:=w) ⟨g,0,none⟩ Tryz.underlying94 Tryz.underlying216 hj (by rw[hjs];decide) hsh (by show 0<3;decide)
  have k2:(callFunc 168 #[.pointer (some ⟨g,0,none⟩)]).run Tryz.prog w=.ok (.value (.pointer (some ⟨g,0,none⟩))) w:=by
   rw[run_callFunc_extern Tryz.func168 (by kernel_rfl) (by kernel_rfl) (by kernel_rfl) (e:=Extern.AbiNoEscape.same) (by kernel_rfl)]
   rfl
  have k3:=Lib.run_from_unsafe (P:=Tryz.prog) (w:=w) ⟨g,0,none⟩ Tryz.underlying216 Tryz.underlying94 hj hsh liesBld
  clear hk ho hj hjs hsh
  go_enter Tryz.func135,Tryz.ntmps135
  go_wp2
  go_end0
  refine⟨rfl,⟨A,c,?_,?_⟩,(Below.refl _ _).setCell (p:=⟨g,0,none⟩) (Nat.le_refl _) _,keep_writer Hk.out⟩
  ·exact Hk.out.stored 0 _
  ·exact own_but Ho.out ((But.refl (fun i=>i=g) w).setCell (p:=⟨g,0,none⟩) (.inl rfl) _) (fun i hi e=>by
    subst e
    have:=(Ho.out.lt i hi).1
    omega)
 ·obtain⟨A,c,hk,ho⟩:=h
  have Hk:=Lhd hk
  have Ho:=Lhd ho
  obtain⟨c0,c1,c2,hlt,hsh⟩:=wtBox hk
  have k1:=Lib.run_neq_ptr_same (P:=Tryz.prog) w ⟨g,0,none⟩ Tryz.underlying94 hj
  clear hk ho hsh hj hjs
  go_enter Tryz.func135,Tryz.ntmps135
  go_wp2
  go_end0
  exact⟨rfl,⟨A,c,Hk.out,Ho.out⟩,Wrote.refl _ _⟩
theorem tyByte:(Tryz.prog.info? 5).map (fun i=>(i.zero,i.size,i.bytes))=some (some (.int .u8 0),1,1):=by kernel_rfl
theorem byteCells_app (a b:List UInt8):Lib.byteCells (a++b)=Lib.byteCells a++Lib.byteCells b:=by simp[Lib.byteCells]
theorem writeString_any (g:Nat) (t:List UInt8) (br:Bool) (s:ByteArray) (w:World) (h:WtAt g t br w) (hlen:t.length+s.size≤1000000000) :
  Calls Tryz.prog 93 #[.pointer (some ⟨g,0,none⟩),.string s] w fun e w'=>e=.returned (.tuple #[.int .i64 s.size,.nilIface])∧WtAt g (t++s.data.toList) br w'∧Wrote g w w':=by
 obtain⟨i0,hi,hz0,hz1,hz2⟩:=info_parts tyByte
 have Hc:=Lhd (copyCheck_any g t br w h)
 clear h
 go_enter Tryz.func93,Tryz.ntmps93
 go_wp2_with (go_at_call 135;refine Hc.out.mono ?_)
 rintro e w1 ⟨rfl,⟨A,c,hk,ho⟩,hw1⟩
 obtain⟨c0,c1,c2,hlt,_⟩:=wtBox hk
 have hf:=hk.frozen 1
 have Hk:=Lhd hk
 have Ho:=Lhd ho
 have Hw:=Lhd hw1
 clear hk hw1
 go_wp2_with (at_builtin;refine Lib.wpList_append_own_string _ rfl _ _ 95 9 rfl (g+1) 5 i0 Tryz.underlying95 Tryz.underlying9 hi hz0 hz1 hz2 _ _ _ rfl ho s rfl ?c3 ?c4 ?c5 ?_)
 case c3=>unfold maxLen;omega
 case c4=>omega
 case c5=>omega
 intro v' w2 hown' hgrow _
 have hne:∀ k,(Value.slice A t.length c).ownBlock=some k→g+1≤k:=fun k hk=>(Ho.out.lt k hk).1
 have hk2:=Hk.out.as_was (hgrow.block g hlt (fun e=>by have:=hne g e.symm;omega))
 obtain⟨A',n',c',rfl⟩:∃ A' n' c',v'=.slice A' n' c':=by
  rcases hown'.2 with ⟨hv,_⟩|⟨_,_,_,hv,_⟩
  ·exact⟨_,_,_,hv⟩
  ·exact⟨_,_,_,hv⟩
 obtain⟨d0,d1,d2,_,_⟩:=wtBox hk2
 have hf2:=hk2.frozen 1
 have Hk2:=Lhd hk2
 have Hown:=Lhd hown'
 have Hgrow:=Lhd hgrow
 have Hne:=Lhd hne
 clear ho hk2 hown' hgrow hne
 go_wp2
 go_ret2
 have hk3:=Hk2.out.stored 1 (.slice A' n' c')
 have hst:=(But.refl (fun i=>i=g) w2).setCell (p:=⟨g,1,none⟩) (.inl rfl) (.slice A' n' c')
 have hl:t.length+s.size=(t++s.data.toList).length:=by rw[List.length_append];rfl
 obtain⟨A2,c2,hv2,_⟩:=ownsRow_form Hown.out
 injection hv2 with e1 e2 e3
 subst e1 e2 e3
 have hb2:Below g w1 w2:=(Below.refl g w1).grown Hgrow.out (by omega) (fun k hk=>by have:=Hne.out k hk;omega)
 have hown3:(w2.setCell ⟨g,1,none⟩ (.slice A' (t.length+s.size) c')).ownsRow (g+1) 5 1 (.slice A' (t.length+s.size) c') (t.length+s.size) (Lib.byteCells t++Lib.strCells s):=own_but Hown.out hst (fun i hi e=>by
  subst e
  have:=(Hown.out.lt i hi).1
  omega)
 refine⟨rfl,.inr ⟨A',c',?_,?_⟩,Hw.out.1.trans (hb2.trans ((Below.refl g w2).setCell (p:=⟨g,1,none⟩) (Nat.le_refl _) _)),Hw.out.2.trans ?_⟩
 ·rw[← hl];exact hk3
 ·rw[← hl,byteCells_app];exact hown3
 ·refine KeepT.trans ⟨Hgrow.out.size,fun b T cs h1 h2 hb=>hb.as_was (Hgrow.out.block b hb.lt fun e=>?_)⟩ (keep_writer Hk2.out)
  rcases Ho.out.2 with ⟨hv,_⟩|⟨k,cap,cur,hv,_,hk,_⟩
  ·injection hv with e1
   subst e1
   cases e
  ·injection hv with e1
   subst e1
   injection e with e
   subst e
   unfold IsBlk at hb
   rw[hk] at hb
   injection hb with hb
   injection hb with _ h3
   exact h2 h3.symm
def catL (xs:List ByteArray):List UInt8:=(xs.map (·.data.toList)).flatten
theorem catL_take {xs:List ByteArray} {k:Nat} {s:ByteArray} (h:xs[k]?=some s):catL (xs.take (k+1))=catL (xs.take k)++s.data.toList:=by
 obtain⟨hk,rfl⟩:=List.getElem?_eq_some_iff.1 h
 unfold catL
 rw[List.take_succ_eq_append_getElem hk,List.map_append,List.flatten_append]
 rw[List.map_cons,List.map_nil,List.flatten_cons,List.flatten_nil,List.append_nil]
theorem catL_le (xs:List ByteArray) (k:Nat):(catL (xs.take k)).length≤(catL xs).length:=by
 unfold catL
 conv=>rhs;rw[← List.take_append_drop k xs,List.map_append,List.flatten_append,List.length_append]
 exact Nat.le_add_right _ _
theorem put_any (g b n:Nat) (t:List UInt8) (br:Bool) (xs:List ByteArray) (w:World) (h:WtAt g t br w) (hb:IsBlk w b 9 (xs.map Value.string).toArray) (hn:xs.length=n) (hn2:n≤1000) (hlen:t.length+(catL xs).length≤1000000000) :
  Calls Tryz.prog 46 #[.pointer (some ⟨g,0,none⟩),.slice (some ⟨b,0,none⟩) n n] w fun e w'=>e=.returned (.tuple #[])∧WtAt g (t++catL xs) br w'∧Wrote g w w':=by
 have H:=Lhd h
 have Hb:=Lhd hb
 have Hn:=Lhd hn
 clear h hb hn
 go_enter Tryz.func46,Tryz.ntmps46
 go_wp2
 go_loopw [8] (fun i wr=>∃ k:Nat,k≤n∧i=.int .i64 k∧WtAt g (t++catL (xs.take k)) br wr∧Wrote g w wr) (fun i _=>n-(intOf i).toNat)
 case atStart=>exact⟨0,Nat.zero_le _,rfl,by simpa [catL] using H.out,Wrote.refl _ _⟩
 case round =>
  obtain⟨k,hk,rfl,hw,hr⟩:=hrel
  have hbr:IsBlk wr b 9 (xs.map Value.string).toArray:=hr.2.2 b _ _ (by decide) (by decide) Hb.out
  by_cases hlt:k<n
  ·have hkx:k<xs.length:=by rw[Hn.out];exact hlt
   have hs:xs[k]?=some (xs[k]'hkx):=List.getElem?_eq_getElem _
   have hc:wr.cell? ⟨b,k,none⟩=some (.string (xs[k]'hkx)):=by
    rw[hbr.cell,List.getElem?_toArray,List.getElem?_map,hs];rfl
   have hbl:=hbr.lt
   have hle:=catL_le xs (k+1)
   rw[catL_take hs,List.length_append] at hle
   have hgl:=hw.lt
   have Hc:=Lhd (writeString_any g (t++catL (xs.take k)) br (xs[k]'hkx) wr hw (by
    rw[List.length_append]
    have e:(xs[k]'hkx).data.toList.length=(xs[k]'hkx).size:=rfl
    omega))
   rw[List.append_assoc,← catL_take hs] at Hc
   have Hr:=Lhd hr
   generalize xs[k]'hkx=s at *
   clear hbr hw hr hs hle
   go_wp2_with (go_at_call 93;refine Hc.out.mono ?_;rintro e w2 ⟨rfl,hw2,hr2⟩)
   have Hw2:=Lhd (And.intro hw2 hr2)
   clear hw2 hr2
   go_roundw
   case rel=>exact⟨k+1,by omega,by go_num,Hw2.out.1,Hr.out.trans Hw2.out.2⟩
   case measure=>simp[intOf];omega
  ·have Hw:=Lhd (And.intro hw hr)
   clear hw hr hbr
   go_wp2
   go_end0
   have h1:=Hw.out.1
   rw[List.take_of_length_le (by rw[Hn.out];omega)] at h1
   exact⟨rfl,h1,Hw.out.2⟩
theorem put_d (u:FrameMode) (g b n:Nat) (t:List UInt8) (br:Bool) (xs:List ByteArray) (w:World) (h:WtAt g t br w) (hb:IsBlk w b 9 (xs.map Value.string).toArray) (hn:xs.length=n) (hn2:n≤1000) (hlen:t.length+(catL xs).length≤1000000000) :
  CallsD Tryz.prog 46 #[.pointer (some ⟨g,0,none⟩),.slice (some ⟨b,0,none⟩) n n] u w fun e u' w'=>u'=u∧(e=.returned (.tuple #[])∧WtAt g (t++catL xs) br w'∧Wrote g w w'):=by
 have H:=Lhd h
 have Hb:=Lhd hb
 have Hn:=Lhd hn
 clear h hb hn
 go_enter_d Tryz.func46,Tryz.ntmps46
 go_wp2
 go_loopw [8] (fun i wr=>∃ k:Nat,k≤n∧i=.int .i64 k∧WtAt g (t++catL (xs.take k)) br wr∧Wrote g w wr) (fun i _=>n-(intOf i).toNat)
 case atStart=>exact⟨0,Nat.zero_le _,rfl,by simpa [catL] using H.out,Wrote.refl _ _⟩
 case round =>
  obtain⟨k,hk,rfl,hw,hr⟩:=hrel
  have hbr:IsBlk wr b 9 (xs.map Value.string).toArray:=hr.2.2 b _ _ (by decide) (by decide) Hb.out
  by_cases hlt:k<n
  ·have hkx:k<xs.length:=by rw[Hn.out];exact hlt
   have hs:xs[k]?=some (xs[k]'hkx):=List.getElem?_eq_getElem _
   have hc:wr.cell? ⟨b,k,none⟩=some (.string (xs[k]'hkx)):=by
    rw[hbr.cell,List.getElem?_toArray,List.getElem?_map,hs];rfl
   have hbl:=hbr.lt
   have hle:=catL_le xs (k+1)
   rw[catL_take hs,List.length_append] at hle
   have hgl:=hw.lt
   have Hc:=Lhd (writeString_any g (t++catL (xs.take k)) br (xs[k]'hkx) wr hw (by
    rw[List.length_append]
    have e:(xs[k]'hkx).data.toList.length=(xs[k]'hkx).size:=rfl
    omega))
   rw[List.append_assoc,← catL_take hs] at Hc
   have Hr:=Lhd hr
   generalize xs[k]'hkx=s at *
   clear hbr hw hr hs hle
   go_wp2_with (go_at_call 93;refine Hc.out.mono ?_;rintro e w2 ⟨rfl,hw2,hr2⟩)
   have Hw2:=Lhd (And.intro hw2 hr2)
   clear hw2 hr2
   go_roundw
   case rel=>exact⟨k+1,by omega,by go_num,Hw2.out.1,Hr.out.trans Hw2.out.2⟩
   case measure=>simp[intOf];omega
  ·have Hw:=Lhd (And.intro hw hr)
   clear hw hr hbr
   go_wp2
   go_end0
   have h1:=Hw.out.1
   rw[List.take_of_length_le (by rw[Hn.out];omega)] at h1
   exact⟨rfl,h1,Hw.out.2⟩
theorem dbl_skip {b:UInt8} (h:(b==39)=false) (l:List UInt8):dbl (b::l)=b::dbl l:=by
 unfold dbl
 rw[List.flatMap_cons,if_neg (by simpa using h)]
 rfl
theorem dbl_hit {l:List UInt8}:dbl (39::l)=39::39::dbl l:=by
 unfold dbl
 rw[List.flatMap_cons,if_pos rfl]
 rfl
theorem dbl_none {l:List UInt8} (h:Lib.indexByte l 39 = -1):dbl l=l:=by
 induction l with
 | nil=>rfl
 | cons b l ih =>
  unfold Lib.indexByte at h
  cases hb:b==39
  ·rw[hb] at h
   simp only[Bool.false_eq_true,if_false] at h
   rw[dbl_skip hb,ih (by
    have:=Lib.indexByte_ge l 39
    split at h
    ·rename_i h2;simpa using h2
    ·omega)]
  ·rw[hb] at h;simp at h
theorem dbl_at {l:List UInt8}:∀ {i:Nat},Lib.indexByte l 39=i→dbl l=l.take i++[39,39]++dbl (l.drop (i+1)):=by
 induction l with
 | nil=>intro i h;simp[Lib.indexByte] at h
 | cons b l ih =>
  intro i h
  unfold Lib.indexByte at h
  cases hb:b==39
  ·rw[hb] at h
   simp only[Bool.false_eq_true,if_false] at h
   have:=Lib.indexByte_ge l 39
   split at h
   ·omega
   ·rename_i h2
    have h2:Lib.indexByte l 39≠-1:=by simpa using h2
    have hi:1≤i:=by omega
    have hj:Lib.indexByte l 39=((i-1:Nat):Int):=by omega
    have h3:=ih hj
    obtain⟨j,rfl⟩:∃ j,i=j+1:=⟨i-1,by omega⟩
    rw[Nat.add_sub_cancel] at h3
    rw[dbl_skip hb,h3]
    rfl
  ·rw[hb] at h
   simp only[if_true] at h
   obtain rfl:i=0:=by omega
   have:b=39:=by simpa using hb
   subst this
   exact dbl_hit
theorem none_count {c:UInt8}:∀ {l:List UInt8},l.count c=0→Lib.indexByte l c = -1:=by
 intro l
 induction l with
 | nil=>intro _;rfl
 | cons b l ih =>
  intro h
  rw[List.count_cons] at h
  unfold Lib.indexByte
  cases hb:b==c
  ·rw[hb] at h
   simp only[Bool.false_eq_true,if_false,Nat.add_zero] at h ⊢
   rw[ih h]
   rfl
  ·rw[hb] at h;simp at h
theorem replace_dbl:∀ (k:Nat) (l:List UInt8),Lib.count l [39]=k→Lib.replaceK [39] [39,39] k l=dbl l:=by
 intro k
 induction k with
 | zero =>
  intro l h
  rw[Lib.count_one] at h
  rw[dbl_none (none_count h)]
  rfl
 | succ k ih =>
  intro l h
  obtain⟨i,hi⟩:=Lib.index_of_count (s:=l) (old:=[39]) (by omega)
  have h1:=Lib.count_hit (by simp) hi
  rw[Lib.replaceK_hit _ _ _ _ i hi,ih _ (by omega)]
  rw[Lib.index_one] at hi
  exact(dbl_at hi).symm
theorem replaceAll_dbl (l:List UInt8):Lib.replaceAll l [39] [39,39]=dbl l:=by
 unfold Lib.replaceAll Lib.replace
 rw[if_neg (by decide)]
 refine replace_dbl _ l ?_
 unfold Lib.replaceNum
 rw[if_pos (by left;decide)]
def HasMax (w:World):Prop:=∃ m:Int,w.cell? ⟨0,0,none⟩=some (.int .i64 m)
theorem HasMax.below {w w':World} {g:Nat} (h:HasMax w) (hg:0<g) (hb:Below g w w'):HasMax w':=by
 obtain⟨m,hm⟩:=h
 exact⟨m,(hb.cell (p:=⟨0,0,none⟩) hg).trans hm⟩
theorem HasMax.lt {w:World} (h:HasMax w):0<w.heap.size:=by
 obtain⟨m,hm⟩:=h
 exact World.block_lt_of_cell? w _ hm
theorem text_any (s:ByteArray) (w:World):Calls Tryz.prog 50 #[.string s] w fun e w'=>e=.returned (.agg #[.int .i64 2,.int .i64 0,.string s])∧Below w.heap.size w w':=by
 go_enter Tryz.func50,Tryz.ntmps50
 go_wp2
 refine bodyPost_ret (v:=.agg #[.int .i64 2,.int .i64 0,.string s]) (by simp[results,Tryz.results50,go_sem]) rfl ⟨rfl,?_⟩
 exact(Below.refl _ _).alloc (Nat.le_refl _) _
theorem bool_any (b:Bool) (w:World):Calls Tryz.prog 51 #[.bool b] w fun e w'=>e=.returned (.agg #[.int .i64 3,.int .i64 (if b then 1 else 0),.string ⟨#[]⟩])∧Below w.heap.size w w':=by
 cases b
 all_goals
  go_enter Tryz.func51,Tryz.ntmps51
  go_wp2
 ·refine bodyPost_ret (v:=.agg #[.int .i64 3,.int .i64 0,.string ⟨#[]⟩]) (by simp[results,Tryz.results51,go_sem]) rfl ⟨rfl,?_⟩
  exact((Below.refl _ _).alloc (Nat.le_refl _) _).alloc (by simp) _
 ·refine bodyPost_ret (v:=.agg #[.int .i64 3,.int .i64 1,.string ⟨#[]⟩]) (by simp[results,Tryz.results51,go_sem]) rfl ⟨rfl,?_⟩
  exact((Below.refl _ _).alloc (Nat.le_refl _) _).alloc (by simp) _
theorem ret_str {a b:ByteArray} (h:a.data=b.data):Ending.returned (.string a)=.returned (.string b):=by cases a;cases b;simp only at h;rw[h]
theorem valBox {w:World} {g:Nat} {T:TypeId} {v0 v1 v2:Value} (h:IsBlk w g T #[v0,v1,v2]):w.cell? ⟨g,0,none⟩=some v0∧w.cell? ⟨g,1,none⟩=some v1∧w.cell? ⟨g,2,none⟩=some v2∧g<w.heap.size:=by
 obtain⟨h0,h1,h2,h3,_⟩:=wtBox h
 exact⟨h0,h1,h2,h3⟩
theorem wrong_text (s:ByteArray) (w:World) (hs:s.size≤200):Calls Tryz.prog 96 #[.agg #[.int .i64 2,.int .i64 0,.string s]] w fun e w'=>e=.returned (.bool false)∧Below w.heap.size w w':=by
 have hd:decide ((200:Int)<(s.size:Int))=false:=by simp;omega
 go_enter Tryz.func96,Tryz.ntmps96
 go_wp2
 go_ret
 exact⟨rfl,(Below.refl _ _).alloc (Nat.le_refl _) _⟩
theorem wrong_bool (n:Int) (w:World) (hn:n=0∨n=1):Calls Tryz.prog 96 #[.agg #[.int .i64 3,.int .i64 n,.string ⟨#[]⟩]] w fun e w'=>e=.returned (.bool false)∧Below w.heap.size w w':=by
 rcases hn with rfl|rfl
 all_goals
  go_enter Tryz.func96,Tryz.ntmps96
  go_wp2
  go_ret
  exact⟨rfl,(Below.refl _ _).alloc (Nat.le_refl _) _⟩
theorem valText_any (s:ByteArray) (w:World) (hs:s.size≤200) (hm:HasMax w):Calls Tryz.prog 49 #[.agg #[.int .i64 2,.int .i64 0,.string s]] w fun e w'=>e=.returned (.string ⟨(quoteS s).toArray⟩)∧Below w.heap.size w w':=by
 have hx:IsBlk (w.alloc (.cells #[.int .i64 2,.int .i64 0,.string s] 112)) w.heap.size 112 #[.int .i64 2,.int .i64 0,.string s]:=IsBlk.laid _ _ _
 obtain⟨w1,Hw1⟩:∃ w1,Hid (w1=w.alloc (.cells #[.int .i64 2,.int .i64 0,.string s] 112)):=⟨_,rfl⟩
 rw[← Hw1.out] at hx
 have hb1:Below w.heap.size w w1:=by rw[Hw1.out];exact(Below.refl _ _).alloc (Nat.le_refl _) _
 have Hx:=Lhd (fun W (hW:Below w1.heap.size w1 W)=>valBox (hx.as_was (hW.block _ hx.lt)))
 have Hwr:=Lhd (wrong_text s w1 hs)
 have Hre:=Lhd (fun W (hW:Below w1.heap.size w1 W)=>(show Calls Tryz.prog 97 #[.string s,.string ⟨#[39]⟩,.string ⟨#[39,39]⟩] W fun e w'=>e=.returned (.string ⟨(dbl s.data.toList).toArray⟩)∧Below W.heap.size W w' from by
  obtain⟨m,hm2⟩:=(hm.below hm.lt hb1).below (hm.below hm.lt hb1).lt hW
  have h:=Tryz.strings_ReplaceAll s ⟨#[39]⟩ ⟨#[39,39]⟩ m W (by omega) hm2 (by decide) (by
   have h1:Lib.countB s ⟨#[39]⟩≤s.data.toList.length+1:=Lib.count_le _ _
   have h2:s.data.toList.length=s.size:=rfl
   have h3:(⟨#[39,39]⟩:ByteArray).size=2:=rfl
   rw[h3]
   omega)
  have e:Lib.replaceAll s.data.toList (⟨#[39]⟩:ByteArray).data.toList (⟨#[39,39]⟩:ByteArray).data.toList=dbl s.data.toList:=replaceAll_dbl _
  rw[e] at h
  exact h))
 have Hb1:=Lhd hb1
 have hR:Below w1.heap.size w1 w1:=Below.refl _ _
 obtain⟨x0,x1,x2,xl⟩:=Hx.out _ hR
 have hq:(dbl s.data.toList).length≤400:=by
  have h1:=dbl_len s.data.toList
  have h2:s.data.toList.length=s.size:=rfl
  omega
 clear hx hb1 hm
 go_enter Tryz.func49,Tryz.ntmps49
 go_upto_region 1 with (fail)
 rw[← Hw1.out]
 go_wp2_with (first
  | (go_at_call 96;refine Hwr.out.mono ?_;rintro e w2 ⟨rfl,hb2⟩;replace hR:=hR.trans (hb2.mono hR.size);obtain⟨x0,x1,x2,xl⟩:=Hx.out _ hR)
  | (go_at_call 97;refine(Hre.out _ hR).mono ?_;rintro e w3 ⟨rfl,hb3⟩))
 go_ret
 refine⟨ret_str ?_,Hb1.out.trans ((hR.trans (hb3.mono hR.size)).mono Hb1.out.size)⟩
 simp[ByteArray.data_append,quoteS]
theorem valBool_any (b:Bool) (w:World):Calls Tryz.prog 49 #[.agg #[.int .i64 3,.int .i64 (if b then 1 else 0),.string ⟨#[]⟩]] w fun e w'=>e=.returned (.string ⟨(if b then trueL else falseL).toArray⟩)∧Below w.heap.size w w':=by
 obtain⟨n,Hn,hn⟩:∃ n:Int,Hid ((if b then 1 else 0:Int)=n)∧(n=0∨n=1):=⟨_,Lhd rfl,by cases b<;>simp⟩
 rw[Hn.out]
 have hx:IsBlk (w.alloc (.cells #[.int .i64 3,.int .i64 n,.string ⟨#[]⟩] 112)) w.heap.size 112 #[.int .i64 3,.int .i64 n,.string ⟨#[]⟩]:=IsBlk.laid _ _ _
 obtain⟨w1,Hw1⟩:∃ w1,Hid (w1=w.alloc (.cells #[.int .i64 3,.int .i64 n,.string ⟨#[]⟩] 112)):=⟨_,rfl⟩
 rw[← Hw1.out] at hx
 have hb1:Below w.heap.size w w1:=by rw[Hw1.out];exact(Below.refl _ _).alloc (Nat.le_refl _) _
 have Hx:=Lhd (fun W (hW:Below w1.heap.size w1 W)=>valBox (hx.as_was (hW.block _ hx.lt)))
 have Hwr:=Lhd (wrong_bool n w1 hn)
 have Hb1:=Lhd hb1
 have hR:Below w1.heap.size w1 w1:=Below.refl _ _
 obtain⟨x0,x1,x2,xl⟩:=Hx.out _ hR
 clear hx hb1 hn
 cases b
 ·obtain rfl:n=0:=Hn.out.symm
  go_enter Tryz.func49,Tryz.ntmps49
  go_upto_region 1 with (fail)
  rw[← Hw1.out]
  go_wp2_with (go_at_call 96;refine Hwr.out.mono ?_;rintro e w2 ⟨rfl,hb2⟩;replace hR:=hR.trans (hb2.mono hR.size);obtain⟨x0,x1,x2,xl⟩:=Hx.out _ hR)
  go_ret
  exact⟨rfl,Hb1.out.trans (hR.mono Hb1.out.size)⟩
 ·obtain rfl:n=1:=Hn.out.symm
  go_enter Tryz.func49,Tryz.ntmps49
  go_upto_region 1 with (fail)
  rw[← Hw1.out]
  go_wp2_with (go_at_call 96;refine Hwr.out.mono ?_;rintro e w2 ⟨rfl,hb2⟩;replace hR:=hR.trans (hb2.mono hR.size);obtain⟨x0,x1,x2,xl⟩:=Hx.out _ hR)
  go_ret
  exact⟨rfl,Hb1.out.trans (hR.mono Hb1.out.size)⟩
def SignQ (op:Int) (w:World) (e:Ending) (w':World):Prop:=e=.returned (.tuple #[.string ⟨(sgnL op).toArray⟩,.int .i64 (lvlZ op)])∧Below w.heap.size w w'
theorem sign_a (op:Int) (w:World) (h:op=1∨op=2∨op=3∨op=4∨op=5∨op=11∨op=12∨op=13∨op=14∨op=15∨op=16∨op=21∨op=22∨op=23∨op=24):Calls Tryz.prog 45 #[.int .i64 op] w (SignQ op w):=by
 have hb:∀ o,Below w.heap.size w (w.alloc o):=fun o=>(Below.refl _ _).alloc (Nat.le_refl _) o
 rcases h with rfl|rfl|rfl|rfl|rfl|rfl|rfl|rfl|rfl|rfl|rfl|rfl|rfl|rfl|rfl
 all_goals
  go_enter Tryz.func45,Tryz.ntmps45
  go_wp2
  go_ret2
  first|exact⟨rfl,Below.refl _ _⟩|exact⟨rfl,hb _⟩
theorem sign_b (op:Int) (w:World) (h:op=6∨op=7∨op=8∨op=9∨op=10∨op=17∨op=18∨op=19∨op=20):Calls Tryz.prog 45 #[.int .i64 op] w (SignQ op w):=by
 rcases h with rfl|rfl|rfl|rfl|rfl|rfl|rfl|rfl|rfl
 all_goals
  go_enter Tryz.func45,Tryz.ntmps45
  go_wp2
  go_region
  all_goals
   go_wp2
   go_ret2
   exact⟨rfl,by repeat (first|exact Below.refl _ _|refine Below.drew ?_|refine Below.alloc ?_ (by simp) _|refine Below.alloc ?_ (by simp;omega) _)⟩
theorem sign_any (op:Int) (w:World) (h1:1≤op) (h2:op≤24):Calls Tryz.prog 45 #[.int .i64 op] w (SignQ op w):=by
 by_cases h:op=6∨op=7∨op=8∨op=9∨op=10∨op=17∨op=18∨op=19∨op=20
 ·exact sign_b op w h
 ·exact sign_a op w (by omega)
theorem equal_none (A:Option Addr) (c:Nat) (f:Value) (w:World):Calls Tryz.prog 138 #[.slice A 0 c,.slice none 0 0,f] w fun e w'=>e=.returned (.bool true)∧w=w':=by
 go_enter Tryz.func138,Tryz.ntmps138
 go_wp2
 refine wp_loop_rounds 1 ?_
 rw[rounds_succ]
 go_wp2
 go_ret
 exact⟨rfl,rfl⟩
def SameQ (b:Bool) (w:World) (e:Ending) (w':World):Prop:=e=.returned (.bool b)∧Below w.heap.size w w'
theorem two_laid (w:World) (o o2:Obj):Below w.heap.size w ((w.alloc o).alloc o2):=((Below.refl _ _).alloc (Nat.le_refl _) _).alloc (by simp) _
theorem same_not3 (op n:Int) (s name src:ByteArray) (A:Option Addr) (m c:Nat) (w:World) (h:op≠3) :
  Calls Tryz.prog 98 #[.agg #[.int .i64 op,.int .i64 n,.string s,.string name,.string src,.slice A m c],.agg #[.int .i64 3,.int .i64 1,.string ⟨#[]⟩,.string ⟨#[]⟩,.string ⟨#[]⟩,.slice none 0 0]] w (SameQ false w):=by
 have e:(op==3)=false:=by simpa using h
 clear h
 go_enter Tryz.func98,Tryz.ntmps98
 go_wp2
 go_ret
 exact⟨rfl,two_laid _ _ _⟩
theorem same_false (n:Int) (s name src:ByteArray) (A:Option Addr) (m c:Nat) (w:World) (h:n≠1) :
  Calls Tryz.prog 98 #[.agg #[.int .i64 3,.int .i64 n,.string s,.string name,.string src,.slice A m c],.agg #[.int .i64 3,.int .i64 1,.string ⟨#[]⟩,.string ⟨#[]⟩,.string ⟨#[]⟩,.slice none 0 0]] w (SameQ false w):=by
 have e:(n==1)=false:=by simpa using h
 clear h
 go_enter Tryz.func98,Tryz.ntmps98
 go_wp2
 go_ret
 exact⟨rfl,two_laid _ _ _⟩
theorem same_true (A:Option Addr) (c:Nat) (w:World) :
  Calls Tryz.prog 98 #[.agg #[.int .i64 3,.int .i64 1,.string ⟨#[]⟩,.string ⟨#[]⟩,.string ⟨#[]⟩,.slice A 0 c],.agg #[.int .i64 3,.int .i64 1,.string ⟨#[]⟩,.string ⟨#[]⟩,.string ⟨#[]⟩,.slice none 0 0]] w (SameQ true w):=by
 go_enter Tryz.func98,Tryz.ntmps98
 go_wp2_with (go_at_call 138;refine(equal_none _ _ _ _).mono ?_;rintro e w' ⟨rfl,rfl⟩)
 go_ret
 exact⟨rfl,two_laid _ _ _⟩
theorem same_any (F:Nat→Prop) (d:Nat) (x:Ex) (row:List Value) (w:World) (h:ExAt F d w row x) (hb:builtE d x=true) :
  Calls Tryz.prog 98 #[.agg row.toArray,.agg #[.int .i64 3,.int .i64 1,.string ⟨#[]⟩,.string ⟨#[]⟩,.string ⟨#[]⟩,.slice none 0 0]] w (SameQ (decide (x.op=3∧x.n=1)) w):=by
 cases d with
 | zero=>exact h.elim
 | succ d =>
  obtain⟨_,_,_,_,_,A,m,c,rfl,hl⟩:=h.open_
  obtain⟨ha,hf,_⟩:=built_parts hb
  by_cases h3:x.op=3
  ·by_cases h1:x.n=1
   ·have hd:decide (x.op=3∧x.n=1)=true:=by simp[h3,h1]
    rw[hd]
    rw[h3] at ha hf ⊢
    rw[h1] at hf ⊢
    have e1:x.args.length=0:=by
     have:arityB 3=0:=rfl
     omega
    have e2:m=0:=by rw[← LsAt.len hl];exact e1
    subst e2
    have hff:fieldsR 3 1 x.s x.name x.src=(noS x.s&&noS x.name&&noS x.src):=by simp[fieldsR]
    rw[hff] at hf
    simp only[Bool.and_eq_true] at hf
    obtain⟨⟨f1,f2⟩,f3⟩:=hf
    unfold noS at f1 f2 f3
    simp only[decide_eq_true_eq] at f1 f2 f3
    rw[f1,f2,f3]
    exact same_true A c w
   ·have hd:decide (x.op=3∧x.n=1)=false:=by simp[h1]
    rw[hd,h3]
    exact same_false _ _ _ _ A m c w h1
  ·have hd:decide (x.op=3∧x.n=1)=false:=by simp[h3]
   rw[hd]
   exact same_not3 _ _ _ _ _ A m c w h3
end Go.Proofs.YtdgapmnojmhllaaGreatDoor
