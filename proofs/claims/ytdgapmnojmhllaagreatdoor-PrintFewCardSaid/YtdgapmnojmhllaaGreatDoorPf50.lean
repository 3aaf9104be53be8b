/- Parts of this proof, one behind the other: PfF. -/
import Derived.Test.YtdgapmnojmhllaaGreatDoorPf36
import Derived.Test.YtdgapmnojmhllaaGreatDoorPf18
import Derived.Test.YtdgapmnojmhllaaGreatDoorPf17
import Derived.Test.YtdgapmnojmhllaaGreatDoorPf13
import Derived.Test.YtdgapmnojmhllaaGreatDoorPf10
import Derived.Test.YtdgapmnojmhllaaGreatDoorPf49
import Derived.Deep.DeepCutAuto
import Derived.Deep.CutBlock
import Derived.Outline
set_option maxRecDepth 1000000
set_option maxHeartbeats 40000000
namespace Go.Proofs.YtdgapmnojmhllaaGreatDoor
open Go.RowKit Go.Afx
theorem exprS_cases (d:Nat) (e:Ex):(∃ E:Int,exprS d e=([],E)∧E≠0)∨(rightE d e=true∧nlE d e=false∧(txtE d e).length≤8000∧exprS d e=(txtE d e,0)):=by
 unfold exprS printS
 cases hr:rightE d e with
 | false=>exact .inl ⟨1,rfl,by decide⟩
 | true =>
  cases hn:nlE d e with
  | true=>exact .inl ⟨1,rfl,by decide⟩
  | false =>
   rw[if_pos rfl,if_neg Bool.false_ne_true]
   by_cases hl:8000<(txtE d e).length
   ·rw[if_pos hl];exact .inl ⟨5,rfl,by decide⟩
   ·rw[if_neg hl];exact .inr ⟨rfl,rfl,by omega,rfl⟩
theorem int_atF {F:Nat→Prop} {w:World} {A:Option Addr} {n c:Nat} {xs:List Int} (h:LsAt F w 1 IRow A n c xs) {k:Nat} (hk:k<n):∃ b o x,A=some ⟨b,o,none⟩∧b<w.heap.size∧w.cell? ⟨b,o+k,none⟩=some (.int .i64 x):=by
 obtain⟨b,o,r,x,hA,hb,_,hx,_,⟨rfl,_⟩,hc⟩:=h.get hk
 exact⟨b,o,x,hA,hb,by simpa using hc 0 _ rfl⟩
theorem pick_index (k:Int) (n:Nat) (h0:0<n) (h8:n≤8000):∃ j:Nat,j<n∧wrap64 ((IntKind.u64.wrap k).tmod (n:Int))=(j:Int):=by
 have hu:0≤IntKind.u64.wrap k:=by simp[IntKind.wrap,IntKind.signed,IntKind.bits];omega
 have h1:0≤(IntKind.u64.wrap k).tmod (n:Int):=Int.tmod_nonneg _ hu
 have h3:(IntKind.u64.wrap k).tmod (n:Int)<(n:Int):=Int.tmod_lt_of_pos _ (by omega)
 generalize (IntKind.u64.wrap k).tmod (n:Int)=x at *
 refine⟨x.toNat,by omega,?_⟩
 have e1:wrap64 x=x:=by unfold wrap64;omega
 rw[e1]
 omega
def FewZ (z:Ex) (pz ez:Int) (w10:World) (e:Ending) (w:World):Prop:=∃ Bz mz cz,e=.returned (.tuple #[.agg #[.int .i64 z.op,.int .i64 z.n,.string z.s,.string z.name,.string z.src,.slice Bz mz cz],.int .i64 pz,.int .i64 ez])∧(∃ F:Nat→Prop,ExAt F 9000 w [.int .i64 z.op,.int .i64 z.n,.string z.s,.string z.name,.string z.src,.slice Bz mz cz] z)∧Below w10.heap.size w10 w
theorem two10 {w:World} {g:Nat} {T:TypeId} {v0 v1:Value} (h:IsBlk w g T #[v0,v1]):w.cell? ⟨g,0,none⟩=some v0∧w.cell? ⟨g,1,none⟩=some v1∧g<w.heap.size:=by
 have h0:=h.cell 0;have h1:=h.cell 1
 simp at h0 h1
 exact⟨h0,h1,h.lt⟩
theorem few_calls {U:ByteArray} (z:Ex) (pz ez:Int) (w10:World) (h:∀ W,Calls Tryz.prog 11 #[.string U] W (ExprGives W (z,pz,ez))) (W:World) (hb:Below w10.heap.size w10 W):Calls Tryz.prog 11 #[.string U] W (FewZ z pz ez w10):=by
 refine(h W).mono ?_
 rintro e w' ⟨⟨row,rfl,hz⟩,hb2⟩
 obtain⟨Bz,mz,cz,rfl⟩:=ex_row hz
 exact⟨Bz,mz,cz,rfl,⟨_,hz⟩,hb.trans (hb2.mono hb.size)⟩
theorem few_set6 {B g:Nat} {a w:World} (h:Below B a w) (hg:B≤g) (v0 v1 v2 v3 v4 v5:Value):Below B a ((((((w.setCell ⟨g,0,none⟩ v0).setCell ⟨g,1,none⟩ v1).setCell ⟨g,2,none⟩ v2).setCell ⟨g,3,none⟩ v3).setCell ⟨g,4,none⟩ v4).setCell ⟨g,5,none⟩ v5) :=
 (((((h.setCell (p:=⟨g,0,none⟩) hg v0).setCell (p:=⟨g,1,none⟩) hg v1).setCell (p:=⟨g,2,none⟩) hg v2).setCell (p:=⟨g,3,none⟩) hg v3).setCell (p:=⟨g,4,none⟩) hg v4).setCell (p:=⟨g,5,none⟩) hg v5
theorem few_kept6 {g d:Nat} {w:World} {r:List Value} {e:Ex} (h:ExAt (fun k=>g<k) d w r e) (v0 v1 v2 v3 v4 v5:Value):ExAt (fun k=>g<k) d ((((((w.setCell ⟨g,0,none⟩ v0).setCell ⟨g,1,none⟩ v1).setCell ⟨g,2,none⟩ v2).setCell ⟨g,3,none⟩ v3).setCell ⟨g,4,none⟩ v4).setCell ⟨g,5,none⟩ v5) r e:=by
 have hb:But (fun k=>k=g) w (w.setCells g 0 [v0,v1,v2,v3,v4,v5]):=But.setCells (S:=fun k=>k=g) (a:=w) (.inl rfl) _ _ _ (But.refl _ _)
 exact h.kept (Kept.of_but hb fun k hk hs=>by have h0:g<k:=hk;have h1:k=g:=hs;omega)
def FewY (z:Ex) (pz ez:Int) (w10:World) (e:Ending) (w:World):Prop:=∃ Bz mz cz,e=.returned (.tuple #[.agg #[.int .i64 z.op,.int .i64 z.n,.string z.s,.string z.name,.string z.src,.slice Bz mz cz],.int .i64 pz,.int .i64 ez])∧ExAt (fun k=>w10.heap.size<k) 9000 w [.int .i64 z.op,.int .i64 z.n,.string z.s,.string z.name,.string z.src,.slice Bz mz cz] z∧Below w10.heap.size w10 w∧IsBlk w w10.heap.size 32 #[.int .i64 0,.int .i64 0,.string ⟨#[]⟩,.string ⟨#[]⟩,.string ⟨#[]⟩,.slice none 0 0]
theorem few_calls2 {U:ByteArray} (z:Ex) (pz ez:Int) (w10:World) (h:∀ W,Calls Tryz.prog 11 #[.string U] W (ExprGives W (z,pz,ez))):Calls Tryz.prog 11 #[.string U] (w10.alloc (.cells #[.int .i64 0,.int .i64 0,.string ⟨#[]⟩,.string ⟨#[]⟩,.string ⟨#[]⟩,.slice none 0 0] 32)).drew (FewY z pz ez w10):=by
 refine(h _).mono ?_
 rintro e w' ⟨⟨row,rfl,hz⟩,hb2⟩
 obtain⟨Bz,mz,cz,rfl⟩:=ex_row hz
 have hk:IsBlk (w10.alloc (.cells #[.int .i64 0,.int .i64 0,.string ⟨#[]⟩,.string ⟨#[]⟩,.string ⟨#[]⟩,.slice none 0 0] 32)) w10.heap.size 32 #[.int .i64 0,.int .i64 0,.string ⟨#[]⟩,.string ⟨#[]⟩,.string ⟨#[]⟩,.slice none 0 0]:=IsBlk.laid _ _ _
 have hb1:=((Below.refl w10.heap.size w10).alloc (Nat.le_refl _) (.cells #[.int .i64 0,.int .i64 0,.string ⟨#[]⟩,.string ⟨#[]⟩,.string ⟨#[]⟩,.slice none 0 0] 32)).drew
 have hk:=hk.as_was (((Below.refl (w10.alloc (.cells #[.int .i64 0,.int .i64 0,.string ⟨#[]⟩,.string ⟨#[]⟩,.string ⟨#[]⟩,.slice none 0 0] 32)).heap.size (w10.alloc (.cells #[.int .i64 0,.int .i64 0,.string ⟨#[]⟩,.string ⟨#[]⟩,.string ⟨#[]⟩,.slice none 0 0] 32))).drew).block _ hk.lt)
 exact⟨Bz,mz,cz,rfl,ExAt.conv (fun k hk=>by have h0:(w10.alloc (.cells #[.int .i64 0,.int .i64 0,.string ⟨#[]⟩,.string ⟨#[]⟩,.string ⟨#[]⟩,.slice none 0 0] 32)).drew.heap.size≤k:=hk;simp at h0;omega) (Kept.refl _ _) 9000 (Nat.le_refl _) hz,hb1.trans (hb2.mono hb1.size),hk.as_was (hb2.block _ hk.lt)⟩
def FewEnd (n0:Nat) (L:List UInt8) (w5:World) (u:Value) (W:World):Prop:=∃ (t:Bool) (op:List Nat) (pr:List (Nat×Nat)) (A:Option Addr) (c:Nat) (B:Option Addr) (d:Nat),u=.slice A pr.length c∧Gath n0 L L.length t op pr A c B d W∧Below n0 w5 W
def FewAt (n0:Nat) (L:List UInt8) (w5:World) (u13 u14 u15 u16:Value) (W:World):Prop:=∃ (i:Nat) (t:Bool) (op:List Nat) (pr:List (Nat×Nat)) (A:Option Addr) (c:Nat) (B:Option Addr) (d:Nat),i≤L.length∧u13=.slice A pr.length c∧u14=.slice B op.length d∧u15=.bool t∧u16=.int .i64 i∧Gath n0 L i t op pr A c B d W∧Below n0 w5 W
theorem few_walk (F:Nat→Prop) (A:Option Addr) (n c:Nat) (xs:List Lf) (k:Int) (w:World) (h1:LsAt F w 6 (LfAt F w) A n c xs) (hF:∀ k,F k→k<w.heap.size) (hm:HasMax w) :
  Calls Tryz.prog 3 #[.slice A n c,.int .i64 k] w fun x w'=>x=.returned (.bool true)∧Below w.heap.size w w':=by
 have Hgr:=Lhd (great_any F A none n c 0 0 xs [] w h1 (LsAt.nil_ _ _ _ _))
 have Hbu:=Lhd (build_any F A none n c 0 0 xs [] w h1 (LsAt.nil_ _ _ _ _) hF)
 have Hm:=Lhd hm
 have Haw:=Lhd (fun W (hW:Below w.heap.size w W)=>awakeP_any W (hm.below hm.lt hW))
 clear h1 hF hm
 go_enter Tryz.func3,Tryz.ntmps3
 go_wp2_with (go_at_call 5;refine Hgr.out.mono ?_)
 rintro x w' ⟨b,rfl,rfl⟩
 cases b
 rotate_left
 ·go_wp2_with (go_at_call 6;refine(Haw.out _ (Below.refl _ _)).mono ?_)
  rintro x w4 ⟨rfl,hb4⟩
  have H4:=Lhd hb4
  clear hb4
  go_wp2
  go_ret
  exact⟨rfl,H4.out⟩
 ·go_wp2_with (go_at_call 7;refine Hbu.out.mono ?_)
  rintro x w2 ⟨row,es,ss,rfl,ht,hb2⟩
  obtain⟨A0,c0,A1,c1,A2,c2,A3,c3,A4,c4,A5,c5,rfl,hE,hN,hD,_,_,_,hl50,_⟩:=ht
  generalize hml:es.length=ne at *
  generalize ss.length=ns at *
  obtain⟨w3,Hw3⟩:∃ w3,Hid (w3=w2.alloc (.cells #[.slice A0 ne c0,.slice A1 ne c1,.slice A2 ne c2,.slice A3 ns c3,.slice A4 ns c4,.slice A5 ns c5] 29)):=⟨_,rfl⟩
  have hb3:Below w2.heap.size w2 w3:=by rw[Hw3.out];exact(Below.refl _ _).alloc (Nat.le_refl _) _
  have hk3:IsBlk w3 w2.heap.size 29 #[.slice A0 ne c0,.slice A1 ne c1,.slice A2 ne c2,.slice A3 ns c3,.slice A4 ns c4,.slice A5 ns c5]:=by rw[Hw3.out];exact IsBlk.laid _ _ _
  have Hb3:=Lhd (hb2.trans (hb3.mono hb2.size))
  have Hb23:=Lhd hb3
  have HE:=Lhd hE
  have HN:=Lhd hN
  obtain⟨x0,x1,x2,x3,x4,x5,xl⟩:=box6 hk3
  clear hb2 hb3 hk3 hE hN hD hml
  go_upto_region 4 with (fail)
  rw[← Hw3.out]
  cases ne with
  | zero =>
   go_wp2_with (go_at_call 6;refine(Haw.out _ Hb3.out).mono ?_)
   rintro x w4 ⟨rfl,hb4⟩
   have H4:=Lhd (Hb3.out.trans (hb4.mono Hb3.out.size))
   clear hb4
   go_wp2
   go_ret
   exact⟨rfl,H4.out⟩
  | succ m =>
   obtain⟨b0,o0,r,x,rfl,hbl,hFb,hx,hrl,hp,hc⟩:=LsAt.get HE.out (Nat.lt_succ_self m)
   obtain⟨Aa,ma,ca,rfl⟩:=ex_row hp
   obtain⟨b1,o1,N,rfl,hbl1,hcN⟩:=int_atF HN.out (Nat.lt_succ_self m)
   have z0:w3.cell? ⟨b0,o0+m*6,none⟩=some (.int .i64 x.op):=(Hb23.out.cell (p:=⟨b0,o0+m*6,none⟩) hbl).trans (by simpa using hc 0 _ rfl)
   have z1:w3.cell? ⟨b0,o0+m*6+1,none⟩=some (.int .i64 x.n):=(Hb23.out.cell (p:=⟨b0,o0+m*6+1,none⟩) hbl).trans (hc 1 _ rfl)
   have z2:w3.cell? ⟨b0,o0+m*6+2,none⟩=some (.string x.s):=(Hb23.out.cell (p:=⟨b0,o0+m*6+2,none⟩) hbl).trans (hc 2 _ rfl)
   have z3:w3.cell? ⟨b0,o0+m*6+3,none⟩=some (.string x.name):=(Hb23.out.cell (p:=⟨b0,o0+m*6+3,none⟩) hbl).trans (hc 3 _ rfl)
   have z4:w3.cell? ⟨b0,o0+m*6+4,none⟩=some (.string x.src):=(Hb23.out.cell (p:=⟨b0,o0+m*6+4,none⟩) hbl).trans (hc 4 _ rfl)
   have z5:w3.cell? ⟨b0,o0+m*6+5,none⟩=some (.slice Aa ma ca):=(Hb23.out.cell (p:=⟨b0,o0+m*6+5,none⟩) hbl).trans (hc 5 _ rfl)
   have v0:w3.cell? ⟨b1,o1+m,none⟩=some (.int .i64 N):=(Hb23.out.cell (p:=⟨b1,o1+m,none⟩) hbl1).trans hcN
   have l0:=Nat.lt_of_lt_of_le hbl Hb23.out.size
   have l1:=Nat.lt_of_lt_of_le hbl1 Hb23.out.size
   have q0:(((m+1:Nat):Int)==0)=false:=by simp;omega
   have q1:IntKind.i64.wrap (((m+1:Nat):Int)-1)=(m:Int):=by rw[i64_of ⟨by omega,by omega⟩];omega
   have q2:(0:Int)≤(m:Int):=by omega
   have q3:(m:Int)<((m+1:Nat):Int):=by omega
   have Hp:=Lhd (hp.below Hb23.out)
   have HFb:=Lhd hFb
   clear hx hrl hp hc hcN hFb
   rcases Bool.eq_false_or_eq_true (decide ((300:Int)<N)) with t1|t1
   ·go_wp2_with (go_at_call 6;refine(Haw.out _ Hb3.out).mono ?_)
    rintro x w4 ⟨rfl,hb4⟩
    have H4:=Lhd (Hb3.out.trans (hb4.mono Hb3.out.size))
    clear hb4
    go_wp2
    go_ret
    exact⟨rfl,H4.out⟩
   ·obtain ⟨w4, Hw4⟩:∃ w4,Hid (w4=w3.alloc (.cells #[.int .i64 x.op,.int .i64 x.n,.string x.s,.string x.name,.string x.src,.slice Aa ma ca] 32)):=⟨_,rfl⟩
    have hb4:Below w3.heap.size w3 w4:=by rw[Hw4.out];exact(Below.refl _ _).alloc (Nat.le_refl _) _
    have hk4:IsBlk w4 w3.heap.size 32 #[.int .i64 x.op,.int .i64 x.n,.string x.s,.string x.name,.string x.src,.slice Aa ma ca]:=by rw[Hw4.out];exact IsBlk.laid _ _ _
    have Hb4:=Lhd (Hb3.out.trans (hb4.mono Hb3.out.size))
    have Hp4:=Lhd (Hp.out.below hb4)
    have Hk4:=Lhd hk4
    have hpe:=printExpr_any _ 50 x _ w4 Hp4.out (by omega) (fun k hk=>Nat.lt_of_lt_of_le hk.1 (Nat.le_trans Hb23.out.size hb4.size)) (Hm.out.below Hm.out.lt Hb4.out) (fun hr=>right_len Hp4.out (by omega) hr)
    go_upto_region 8 with (fail)
    rw[← Hw4.out]
    clear x0 x1 x2 x3 x4 x5 xl z0 z1 z2 z3 z4 z5 v0 l0 l1 q0 q1 q2 q3 t1 hbl hbl1
    obtain⟨x0,x1,x2,x3,x4,x5,xl⟩:=box6 hk4
    rcases exprS_cases 50 x with ⟨E,he,h0⟩|⟨hr,hnl,hlen,he⟩
    ·rw[he] at hpe
     have qe:(E !=0)=true:=by simpa using h0
     have Hpe:=Lhd hpe
     clear hpe he h0 hb4 hk4
     go_wp2_with (go_at_call 8;refine Hpe.out.mono ?_;rintro e w5 ⟨rfl,hb5⟩)
     have Hb5:=Lhd (Hb4.out.trans (hb5.mono Hb4.out.size))
     clear hb5
     go_wp2_with (go_at_call 6;refine(Haw.out _ Hb5.out).mono ?_)
     rintro e w6 ⟨rfl,hb6⟩
     have H6:=Lhd (Hb5.out.trans (hb6.mono Hb5.out.size))
     clear hb6
     go_wp2
     go_ret
     exact⟨rfl,H6.out⟩
    ·have hnum := numE_at 50 Hp4.out
     have hback:=print_backED (d:=50) (by omega) (show rgtE 50 x=true from hr) hnl hnum hlen
     have hbu:builtE 50 x=true:=by
      unfold rightE at hr
      simp only[Bool.and_eq_true] at hr
      exact hr.2
     have Hless:=Lhd (fun (A B C:List UInt8) h=>few_less (d:=50) (x:=x) (A:=A) (B:=B) (C:=C) hbu hnl hnum h)
     obtain⟨T,HT⟩:∃ T:ByteArray,Hid (T=⟨(txtE 50 x).toArray⟩):=⟨_,rfl⟩
     have hTl:T.data.toList=txtE 50 x:=by rw[HT.out]
     have hTz:T.size≤8000:=by rw[← szl,hTl];exact hlen
     have hpa:∀ W,Calls Tryz.prog 9 #[.string T] W (ExprGives W (x,0,0)):=fun W=>by
      have:=parseExpr_any T W
      rw[hTl,hback] at this
      exact this
     rw[he,← HT.out] at hpe
     have Hpe:=Lhd hpe
     have Hpa:=Lhd hpa
     have HTl:=Lhd hTl
     clear hpe hpa hTl he hr hnl hlen hnum hback hbu hb4 hk4
     go_wp2_with (go_at_call 8;refine Hpe.out.mono ?_;rintro e w5 ⟨rfl,hb5⟩)
     have Hb45:=Lhd hb5
     have Hb5:=Lhd (Hb4.out.trans (hb5.mono Hb4.out.size))
     clear hb5 x0 x1 x2 x3 x4 x5 xl
     go_wp2_with (go_at_call 9;refine(Hpa.out _).mono ?_)
     rintro e w6 ⟨⟨row,rfl,hy⟩,hb6⟩
     obtain⟨By,my,cy,rfl⟩:=ex_row hy
     obtain⟨w7,Hw7⟩:∃ w7,Hid (w7=w6.alloc (.cells #[.int .i64 x.op,.int .i64 x.n,.string x.s,.string x.name,.string x.src,.slice By my cy] 32)):=⟨_,rfl⟩
     have hb7:Below w6.heap.size w6 w7:=by rw[Hw7.out];exact(Below.refl _ _).alloc (Nat.le_refl _) _
     have hk7:IsBlk w7 w6.heap.size 32 #[.int .i64 x.op,.int .i64 x.n,.string x.s,.string x.name,.string x.src,.slice By my cy]:=by rw[Hw7.out];exact IsBlk.laid _ _ _
     have hb57:Below w5.heap.size w5 w7:=hb6.trans (hb7.mono hb6.size)
     have hb47:=Hb45.out.trans (hb57.mono Hb45.out.size)
     have hkx7:=Hk4.out.as_was (hb47.block _ Hk4.out.lt)
     have hsm:=oneE_any _ _ 9000 x _ _ w7 (ExAt.conv (fun _ h=>h) (Kept.refl _ _) 50 (by omega:50≤9000) (Hp4.out.below hb47)) (hy.below hb7)
     have Hsm:=Lhd hsm
     have H7:=Lhd (And.intro (Hb5.out.trans (hb57.mono Hb5.out.size)) (And.intro hkx7 (Hp4.out.below hb47)))
     obtain⟨x0,x1,x2,x3,x4,x5,xl⟩:=box6 hkx7
     obtain⟨y0,y1,y2,y3,y4,y5,yl⟩:=box6 hk7
     clear hy hsm hb6 hb7 hk7 hb57 hb47 hkx7
     go_upto_region 12 with (fail)
     rw[← Hw7.out]
     go_upto_region 14 with (go_at_call 10;refine Hsm.out.mono ?_;rintro e w8 ⟨rfl,hb8⟩)
     have H8:=Lhd (And.intro (H7.out.1.trans (hb8.mono H7.out.1.size)) (And.intro (H7.out.2.1.as_was (hb8.block _ H7.out.2.1.lt)) (H7.out.2.2.below hb8)))
     clear hb8 x0 x1 x2 x3 x4 x5 xl y0 y1 y2 y3 y4 y5 yl
     go_upto_block 0 with (fail)
     have HL:Hid (T.data.toList.length=T.size):=Lhd (szl T)
     go_cut [13] (fun u W=>FewEnd w8.heap.size T.data.toList w8 u W)
     case first =>
      go_wp2_with fail
      go_loopw [13,14,15,16] (fun u13 u14 u15 u16 wr=>FewAt w8.heap.size T.data.toList w8 u13 u14 u15 u16 wr) (fun _ _ _ i _=>T.data.toList.length-(intOf i).toNat)
      case atStart=>exact⟨0,false,[],[],none,0,none,0,Nat.zero_le _,rfl,rfl,rfl,rfl,Gath.start _ _ _,Below.refl _ _⟩
      case round =>
       obtain⟨i,t,op,pr,A,c,B,d,hi,rfl,rfl,rfl,rfl,hG,hB⟩:=hrel
       rw[HL.out] at hi
       have HG:=Lhd hG
       have HB:=Lhd hB
       have hpn:=hG.sc.prn
       have hon:=hG.sc.opn
       clear hG hB
       rcases Nat.lt_or_ge i T.size with hlt|hge
       ·have Hc := Lhd (show T.data.toList[i]?=some (T[i]'hlt) by rw[List.getElem?_eq_getElem (by rw[HL.out];exact hlt)];rfl)
        by_cases e39:T[i]'hlt=39
        ·have b39:(((T[i]'hlt).toNat:Int)==39)=true:=by rw[e39];rfl
         have b40:(((T[i]'hlt).toNat:Int)==40)=false:=by rw[e39];rfl
         have b41:(((T[i]'hlt).toNat:Int)==41)=false:=by rw[e39];rfl
         have hs:=HG.out.sc.quote (by rw[Hc.out,e39])
         have Hs:=Lhd hs
         clear e39 hs
         cases t
         all_goals
          go_wp2
          go_roundw
          case rel=>exact⟨i+1,_,op,pr,A,c,B,d,by rw[HL.out];omega,rfl,rfl,rfl,by go_num,HG.out.to Hs.out,HB.out⟩
          case measure=>rw[HL.out];simp[intOf];omega
        ·have b39:(((T[i]'hlt).toNat:Int)==39)=false:=by
          rw[beq_eq_false_iff_ne]
          exact fun h=>e39 (UInt8.toNat_inj.1 (by exact_mod_cast h))
         have Hs:=Lhd (HG.out.sc.other Hc.out e39)
         cases t with
         | true =>
          clear e39
          go_wp2
          go_roundw
          case rel=>exact⟨i+1,_,op,pr,A,c,B,d,by rw[HL.out];omega,rfl,rfl,rfl,by go_num,HG.out.to Hs.out,HB.out⟩
          case measure=>rw[HL.out];simp[intOf];omega
         | false =>
          by_cases e40:T[i]'hlt=40
          ·have b40:(((T[i]'hlt).toNat:Int)==40)=true:=by rw[e40];rfl
           have b41:(((T[i]'hlt).toNat:Int)==41)=false:=by rw[e40];rfl
           have Ho:=Lhd (HG.out.sc.opens (by rw[Hc.out,e40]))
           have hnew:RowsAt (wr.alloc (.cells #[.int .i64 (i:Int)] 3)) 1 (some ⟨wr.heap.size,0,none⟩) 1 1 [orow i]:=RowsAt.lit' _ _ 1 rfl rfl (by simp[orow]) rfl (by unfold maxLen;omega)
           have hown:=HG.out.oown.alloc (.cells #[.int .i64 (i:Int)] 3)
           have hbz:w8.heap.size≤(wr.alloc (.cells #[.int .i64 (i:Int)] 3)).heap.size:=by have:=HB.out.size;simp;omega
           have H9:=Lhd (And.intro hown (And.intro hnew (And.intro hbz (And.intro (show op.length+1≤maxLen by unfold maxLen;omega) (show (op.length+1)*8≤140737488355328 by omega)))))
           clear e39 e40 hnew hown hbz
           go_wp2_with (at_builtin;refine wpList_app (base:=w8.heap.size) (xs:=op.map orow) (news:=[orow i]) rfl rfl tyNum rfl H9.out.1 rfl H9.out.2.1 (by simp[orow]) (by simp[orow,Value.oneCell']) H9.out.2.2.2.1 H9.out.2.2.2.2 H9.out.2.2.1 ?_;intro A6 c6 w9 hown6 hbut6 hf6)
           have H10:=Lhd (And.intro (HG.out.opened Ho.out hown6 hbut6 hf6) ((HB.out.alloc HB.out.size (.cells #[.int .i64 (i:Int)] 3)).trans (own_turned H9.out.1 hbut6 H9.out.2.2.1)))
           clear hown6 hbut6 hf6
           go_wp2
           go_roundw
           case rel=>exact⟨i+1,_,op++[i],pr,A,c,A6,c6,by rw[HL.out];omega,rfl,by simp,rfl,by go_num,H10.out.1,H10.out.2⟩
           case measure=>rw[HL.out];simp[intOf];omega
          ·have b40:(((T[i]'hlt).toNat:Int)==40)=false:=by
            rw[beq_eq_false_iff_ne]
            exact fun h=>e40 (UInt8.toNat_inj.1 (by exact_mod_cast h))
           by_cases e41:T[i]'hlt=41
           ·have b41:(((T[i]'hlt).toNat:Int)==41)=true:=by rw[e41];rfl
            have hc41:T.data.toList[i]?=some 41:=by rw[Hc.out,e41]
            rcases Nat.eq_zero_or_pos op.length with h0|h0
            ·have d0:decide ((0:Int)<(op.length:Int))=false:=decide_eq_false (by omega)
             clear e39 e40 e41
             go_wp2
             go_roundw
             case rel=>exact⟨i+1,_,op,pr,A,c,B,d,by rw[HL.out];omega,rfl,rfl,rfl,by go_num,HG.out.to Hs.out,HB.out⟩
             case measure=>rw[HL.out];simp[intOf];omega
            ·obtain⟨bo,o,rfl,hbl,hmem,hcell⟩:=HG.out.last h0
             have hcap:op.length≤d:=(RowsAt.of_own HG.out.oown (orow_len op) (by simp)).cap
             have holt:=(HG.out.sc.ops o hmem).1
             have Hsh:=Lhd (HG.out.shut (HG.out.sc.shuts hc41))
             have Hpr:=Lhd (HG.out.sc.pair hc41 hmem)
             obtain⟨q,hq⟩:∃ q,op.length=q+1:=⟨op.length-1,by omega⟩
             have Hdl:Hid (op.dropLast.length=q):=Lhd (by simp[hq])
             rw[hq] at hcell hcap hon ⊢
             replace hcell:wr.cell? ⟨bo,q,none⟩=some (.int .i64 (o:Nat)):=hcell
             have q0:decide ((0:Int)<((q+1:Nat):Int))=true:=decide_eq_true (by omega)
             have q1:IntKind.i64.wrap (((q+1:Nat):Int)-1)=(q:Int):=by rw[i64_of ⟨by omega,by omega⟩];omega
             have q2:(0:Int)≤(q:Int):=by omega
             have q3:(q:Int)<((q+1:Nat):Int):=by omega
             have q4:(q:Int)≤(d:Int):=by omega
             clear e39 e40 e41 hq hmem h0 hc41
             go_upto_region 28 with (fail)
             go_cut [137] (fun u W=>(∃ b:Bool,u=.bool b)∧wr=W)
             case first =>
              rcases Nat.eq_zero_or_pos o with ho|ho
              ·subst ho
               go_wp2
               go_meet
               exact⟨⟨_,rfl⟩,rfl⟩
              ·obtain⟨o',rfl⟩:∃ o',o=o'+1:=⟨o-1,by omega⟩
               have p0:(((o'+1:Nat):Int)==0)=false:=by simp;omega
               have p1:IntKind.i64.wrap (((o'+1:Nat):Int)-1)=(o':Int):=by rw[i64_of ⟨by omega,by omega⟩];omega
               have p2:(0:Int)≤(o':Int):=by omega
               have p3:(o':Int)<(T.size:Int):=by omega
               have p4:o'<T.size:=by omega
               cases t1:(((T[o']'p4).toNat:Int)==32)
               all_goals cases t2:(((T[o']'p4).toNat:Int)==40)
               all_goals cases t3:(((T[o']'p4).toNat:Int)==45)
               all_goals
                go_wp2
                go_meet
                exact⟨⟨_,rfl⟩,rfl⟩
             case rest =>
              obtain⟨⟨bb,rfl⟩,rfl⟩:=hcut
              cases bb
              ·go_wp2
               go_roundw
               case rel=>exact⟨i+1,_,op.dropLast,pr,A,c,_,d,by rw[HL.out];omega,rfl,by rw[Hdl.out],rfl,by go_num,Hsh.out,HB.out⟩
               case measure=>rw[HL.out];simp[intOf];omega
              ·have hnew:RowsAt (wr.alloc (.cells #[.int .i64 (o:Int),.int .i64 (i:Int)] 40)) 2 (some ⟨wr.heap.size,0,none⟩) 1 1 [prow (o,i)]:=RowsAt.lit' _ _ 1 rfl rfl (by simp[prow]) rfl (by unfold maxLen;omega)
               have hown:=Hsh.out.pown.alloc (.cells #[.int .i64 (o:Int),.int .i64 (i:Int)] 40)
               have hbz:w8.heap.size≤(wr.alloc (.cells #[.int .i64 (o:Int),.int .i64 (i:Int)] 40)).heap.size:=by have:=HB.out.size;simp;omega
               have H9:=Lhd (And.intro hown (And.intro hnew (And.intro hbz (And.intro (show pr.length+1≤maxLen by unfold maxLen;omega) (show (pr.length+1)*16≤140737488355328 by omega)))))
               clear hnew hown hbz
               go_wp2_with (at_builtin;refine wpList_app (base:=w8.heap.size) (xs:=pr.map prow) (news:=[prow (o,i)]) rfl rfl tyPair rfl H9.out.1 rfl H9.out.2.1 (by simp[prow]) (by simp[prow,Value.oneCell']) H9.out.2.2.2.1 H9.out.2.2.2.2 H9.out.2.2.1 ?_;intro A6 c6 w9 hown6 hbut6 hf6)
               have H10:=Lhd (And.intro (Hsh.out.paired Hpr.out hown6 hbut6 hf6) ((HB.out.alloc HB.out.size (.cells #[.int .i64 (o:Int),.int .i64 (i:Int)] 40)).trans (own_turned H9.out.1 hbut6 H9.out.2.2.1)))
               clear hown6 hbut6 hf6
               go_wp2
               go_roundw
               case rel=>exact⟨i+1,_,op.dropLast,pr++[(o,i)],A6,c6,_,d,by rw[HL.out];omega,by simp,by rw[Hdl.out],rfl,by go_num,H10.out.1,H10.out.2⟩
               case measure=>rw[HL.out];simp[intOf];omega
           ·have b41:(((T[i]'hlt).toNat:Int)==41)=false:=by
             rw[beq_eq_false_iff_ne]
             exact fun h=>e41 (UInt8.toNat_inj.1 (by exact_mod_cast h))
            clear e39 e40 e41
            go_wp2
            go_roundw
            case rel=>exact⟨i+1,_,op,pr,A,c,B,d,by rw[HL.out];omega,rfl,rfl,rfl,by go_num,HG.out.to Hs.out,HB.out⟩
            case measure=>rw[HL.out];simp[intOf];omega
       ·obtain rfl:i=T.size:=by omega
        go_wp2
        go_meet
        exact⟨t,op,pr,A,c,B,d,rfl,by rw[HL.out];exact HG.out,HB.out⟩
     case rest =>
      obtain⟨t,op,pr,A,c,B,d,rfl,hG,hB⟩:=hcut
      generalize wc=W at *
      have HB:=Lhd (H8.out.1.trans (hB.mono H8.out.1.size))
      have HG:=Lhd hG
      have HW:=Lhd hB
      have hpn:=hG.sc.prn
      rw[HL.out] at hpn
      clear hG hB
      rcases Nat.eq_zero_or_pos pr.length with h0|h0
      ·rw[h0]
       go_wp2_with (go_at_call 6;refine(Haw.out _ HB.out).mono ?_)
       rintro e w9 ⟨rfl,hb9⟩
       have H9:=Lhd (HB.out.trans (hb9.mono HB.out.size))
       clear hb9
       go_wp2
       go_ret
       exact⟨rfl,H9.out⟩
      ·obtain⟨j,hj,hjv⟩:=pick_index k pr.length h0 (by omega)
       obtain⟨b,⟨a,q⟩,rfl,hbl,hmem,hc0,hc1⟩:=HG.out.any hj
       obtain⟨hcut,hpq,hab,hbs⟩:=HG.out.sc.cut hmem
       rw[HL.out] at hbs
       replace hc0:W.cell? ⟨b,j*2,none⟩=some (.int .i64 (a:Nat)):=hc0
       replace hc1:W.cell? ⟨b,j*2+1,none⟩=some (.int .i64 (q:Nat)):=hc1
       obtain⟨w10,Hw10⟩:∃ w10,Hid (w10=W.alloc (.cells #[.int .i64 (a:Nat),.int .i64 (q:Nat)] 40)):=⟨_,rfl⟩
       have hb10:Below W.heap.size W w10:=by rw[Hw10.out];exact(Below.refl _ _).alloc (Nat.le_refl _) _
       have hk10:IsBlk w10 W.heap.size 40 #[.int .i64 (a:Nat),.int .i64 (q:Nat)]:=by rw[Hw10.out];exact IsBlk.laid _ _ _
       have hbx:=HW.out.trans (hb10.mono HW.out.size)
       have H10:=Lhd (And.intro (H8.out.1.trans (hbx.mono H8.out.1.size)) (And.intro (H8.out.2.1.as_was (hbx.block _ H8.out.2.1.lt)) (H8.out.2.2.below hbx)))
       obtain⟨a1,ha1⟩:∃ a1,a1=a+1:=⟨_,rfl⟩
       obtain⟨r1,hr1⟩:∃ r1,r1=q+1:=⟨_,rfl⟩
       rw[← ha1,← hr1] at hcut
       have hUl:(T.extract 0 a++T.extract a1 q++T.extract r1 T.size).data.toList=T.data.toList.take a++(T.data.toList.drop a1).take (q-a1)++T.data.toList.drop r1:=by
        rw[ByteArray.data_append,ByteArray.data_append,Array.toList_append,Array.toList_append,pre_list,ext_sub,ext_list]
       have hUz:(T.extract 0 a++T.extract a1 q++T.extract r1 T.size).size≤8000:=by
        rw[← szl,hUl]
        simp
        have:=HL.out
        simp at this
        omega
       have hEx:=fun W'=>refExprX_any (T.extract 0 a++T.extract a1 q++T.extract r1 T.size) W' hUz
       have hne:=Hless.out _ _ _ (by rw[← HTl.out];exact hcut) hpq
       rw[← hUl] at hne
       have hd0:(0:Int)≤(j:Int):=by omega
       have g0:(0:Int)≤(a:Int):=by omega
       have g1:(a:Int)≤(T.size:Int):=by omega
       have g2:IntKind.i64.wrap ((a:Int)+1)=(a1:Int):=by rw[i64_of ⟨by omega,by omega⟩];omega
       have g3:(0:Int)≤(a1:Int):=by omega
       have g4:(a1:Int)≤(q:Int):=by omega
       have g5:(q:Int)≤(T.size:Int):=by omega
       have g6:IntKind.i64.wrap ((q:Int)+1)=(r1:Int):=by rw[i64_of ⟨by omega,by omega⟩];omega
       have g7:(0:Int)≤(r1:Int):=by omega
       have g8:(r1:Int)≤(T.size:Int):=by omega
       have g11:min a T.size=a:=by omega
       have g12:min q T.size=q:=by omega
       have g9:¬ 9223372036854775807<a+(q-a1):=by omega
       have g10:¬ 9223372036854775807<a+(q-a1)+(T.size-r1):=by omega
       have hd1:(j:Int)<(pr.length:Int):=by omega
       generalize exprX (T.extract 0 a++T.extract a1 q++T.extract r1 T.size).data.toList=y at hEx hne
       obtain⟨z,pz,ez⟩:=y
       have HC:=Lhd (few_calls z pz ez w10 hEx)
       have HC2:=Lhd (few_calls2 z pz ez w10 hEx)
       have Hz1:Hid (Below w10.heap.size w10 (w10.alloc (.cells #[.int .i64 0,.int .i64 0,.string ⟨#[]⟩,.string ⟨#[]⟩,.string ⟨#[]⟩,.slice none 0 0] 32)).drew):=Lhd ((Below.refl _ _).alloc (Nat.le_refl _) _).drew
       have Hne:=Lhd hne
       have HS:=Lhd (fun W' (hW:Below w10.heap.size w10 W')=>(show W'.cell? ⟨W.heap.size,0,none⟩=some (.int .i64 (a:Nat))∧W'.cell? ⟨W.heap.size,1,none⟩=some (.int .i64 (q:Nat))∧W.heap.size<W'.heap.size from two10 (hk10.as_was (hW.block _ hk10.lt))))
       generalize hnn:pr.length=n at *
       clear hcut hpq hmem hb10 hk10 hbx hUl hUz hEx hne hnn ha1 hr1
       go_upto_region 33 with (fail)
       rw[← Hw10.out]
       clear hc0 hc1 hjv hd0 hd1 hbl
       have hrf:Below w10.heap.size w10 w10:=Below.refl _ _
       obtain⟨d0,d1,dl⟩:=HS.out _ hrf
       go_region_held3 (fun W' => W'.cell? ⟨W.heap.size, 0, none⟩ = some (.int .i64 (a : Nat)) ∧ W'.cell? ⟨W.heap.size, 1, none⟩ = some (.int .i64 (q : Nat)) ∧ W.heap.size < W'.heap.size) (first | (with_reducible assumption) | (with_reducible exact HS.out _ (few_set6 hbb (Nat.le_refl _) _ _ _ _ _ _)) | (with_reducible exact HS.out _ hrf) | (with_reducible exact HS.out _ hrf.drew) | (with_reducible exact HS.out _ hba) | (with_reducible exact HS.out _ hbb) | (with_reducible exact HS.out _ (Below.alloc hba hba.size _)) | (with_reducible exact HS.out _ Hz1.out) | fail "KEEP") (first | (go_at_call 11; (with_reducible refine (HC.out _ (by first | assumption | exact Below.drew (by assumption))).mono ?_); rintro x wa ⟨Bz, mz, cz, rfl, hz, hba⟩) | (go_at_call 11; (with_reducible refine HC2.out.mono ?_); rintro x wb ⟨Bz, mz, cz, rfl, hz, hbb, hkb⟩; obtain ⟨k0, k1, k2, k3, k4, k5, kl⟩ := box6 hkb; have hfz := hkb.frozen))
       ·obtain⟨Fz,hz⟩:=hz
        obtain⟨w11,Hw11⟩:∃ w11,Hid (w11=wa.alloc (.cells #[.int .i64 z.op,.int .i64 z.n,.string z.s,.string z.name,.string z.src,.slice Bz mz cz] 32)):=⟨_,rfl⟩
        have hal:Below wa.heap.size wa w11:=by rw[Hw11.out];exact(Below.refl _ _).alloc (Nat.le_refl _) _
        have hk11:IsBlk w11 wa.heap.size 32 #[.int .i64 z.op,.int .i64 z.n,.string z.s,.string z.name,.string z.src,.slice Bz mz cz]:=by rw[Hw11.out];exact IsBlk.laid _ _ _
        have hb11:=hba.trans (hal.mono hba.size)
        have hz11:=hz.below hal
        have HB11:=Lhd (H10.out.1.trans (hb11.mono H10.out.1.size))
        have hsm:=sameEW_any _ _ 9000 x z _ _ w11 (ExAt.conv (fun _ h=>h) (Kept.refl _ _) 50 (by omega:50≤9000) (H10.out.2.2.below hb11)) hz11
        have Hsm:=Lhd hsm
        obtain⟨x0,x1,x2,x3,x4,x5,xl⟩:=box6 (H10.out.2.1.as_was (hb11.block _ H10.out.2.1.lt))
        obtain⟨y0,y1,y2,y3,y4,y5,yl⟩:=box6 hk11
        clear hsm hz hz11 hk11 hb11 hal hba
        rw[← Hw11.out]
        by_cases he:ez=0
        ·have qe:(ez !=0)=false:=by simpa using he
         have hzx:=Hne.out he
         go_upto_region 35 with (go_at_call 10;refine Hsm.out.mono ?_)
         rintro e w12 ⟨bs,rfl,hbt,hb12⟩
         cases bs with
         | true=>exact absurd (hbt rfl).symm hzx
         | false =>
          have HB12:=Lhd (HB11.out.trans (hb12.mono HB11.out.size))
          clear hb12 hbt hzx he
          go_wp2_with (go_at_call 6;refine(Haw.out _ HB12.out).mono ?_)
          rintro e w13 ⟨rfl,hb13⟩
          have H13:=Lhd (HB12.out.trans (hb13.mono HB12.out.size))
          clear hb13
          go_wp2
          go_ret
          exact⟨rfl,H13.out⟩
        ·have qe:(ez !=0)=true:=by simpa using he
         clear he
         go_wp2_with (go_at_call 6;refine(Haw.out _ HB11.out).mono ?_)
         rintro e w13 ⟨rfl,hb13⟩
         have H13:=Lhd (HB11.out.trans (hb13.mono HB11.out.size))
         clear hb13
         go_wp2
         go_ret
         exact⟨rfl,H13.out⟩
       ·obtain⟨w11,Hw11⟩:∃ w11,Hid (w11=((((((wb.setCell ⟨w10.heap.size,0,none⟩ (.int .i64 z.op)).setCell ⟨w10.heap.size,1,none⟩ (.int .i64 z.n)).setCell ⟨w10.heap.size,2,none⟩ (.string z.s)).setCell ⟨w10.heap.size,3,none⟩ (.string z.name)).setCell ⟨w10.heap.size,4,none⟩ (.string z.src)).setCell ⟨w10.heap.size,5,none⟩ (.slice Bz mz cz))):=⟨_,rfl⟩
        have hk11:IsBlk w11 w10.heap.size 32 #[.int .i64 z.op,.int .i64 z.n,.string z.s,.string z.name,.string z.src,.slice Bz mz cz]:=by rw[Hw11.out];exact(((((hkb.stored 0 (.int .i64 z.op)).stored 1 (.int .i64 z.n)).stored 2 (.string z.s)).stored 3 (.string z.name)).stored 4 (.string z.src)).stored 5 (.slice Bz mz cz)
        have hb11:Below w10.heap.size w10 w11:=by rw[Hw11.out];exact few_set6 hbb (Nat.le_refl _) _ _ _ _ _ _
        have hz11:ExAt (fun k=>w10.heap.size<k) 9000 w11 [.int .i64 z.op,.int .i64 z.n,.string z.s,.string z.name,.string z.src,.slice Bz mz cz] z:=by rw[Hw11.out];exact few_kept6 hz _ _ _ _ _ _
        have HB11:=Lhd (H10.out.1.trans (hb11.mono H10.out.1.size))
        have hsm:=sameEW_any _ _ 9000 x z _ _ w11 (ExAt.conv (fun _ h=>h) (Kept.refl _ _) 50 (by omega:50≤9000) (H10.out.2.2.below hb11)) hz11
        have Hsm:=Lhd hsm
        obtain⟨x0,x1,x2,x3,x4,x5,xl⟩:=box6 (H10.out.2.1.as_was (hb11.block _ H10.out.2.1.lt))
        obtain⟨y0,y1,y2,y3,y4,y5,yl⟩:=box6 hk11
        clear hsm hz hz11 hk11 hb11 hbb hkb hfz k0 k1 k2 k3 k4 k5 kl
        rw[← Hw11.out]
        by_cases he:ez=0
        ·have qe:(ez !=0)=false:=by simpa using he
         have hzx:=Hne.out he
         go_upto_region 35 with (go_at_call 10;refine Hsm.out.mono ?_)
         rintro e w12 ⟨bs,rfl,hbt,hb12⟩
         cases bs with
         | true=>exact absurd (hbt rfl).symm hzx
         | false =>
          have HB12:=Lhd (HB11.out.trans (hb12.mono HB11.out.size))
          clear hb12 hbt hzx he
          go_wp2_with (go_at_call 6;refine(Haw.out _ HB12.out).mono ?_)
          rintro e w13 ⟨rfl,hb13⟩
          have H13:=Lhd (HB12.out.trans (hb13.mono HB12.out.size))
          clear hb13
          go_wp2
          go_ret
          exact⟨rfl,H13.out⟩
        ·have qe:(ez !=0)=true:=by simpa using he
         clear he
         go_wp2_with (go_at_call 6;refine(Haw.out _ HB11.out).mono ?_)
         rintro e w13 ⟨rfl,hb13⟩
         have H13:=Lhd (HB11.out.trans (hb13.mono HB11.out.size))
         clear hb13
         go_wp2
         go_ret
         exact⟨rfl,H13.out⟩
end Go.Proofs.YtdgapmnojmhllaaGreatDoor
