/- Parts of this proof, one behind the other: RefK, RefE. -/
import Derived.Test.YtmfcmpnlipnopaaGreatTw24
import Derived.Outline
import Derived.Deep.Cut
set_option maxRecDepth 1000000
set_option maxHeartbeats 40000000
namespace Go.Proofs.YtmfcmpnlipnopaaGreat
open Go.RowKit Go.Afx
theorem prBoxK {w:World} {g:Nat} {T:TypeId} {v0 v1 v2 v3 v4 v5:Value} (h:IsBlk w g T #[v0,v1,v2,v3,v4,v5]) :
  w.cell? ⟨g,0,none⟩=some v0∧w.cell? ⟨g,1,none⟩=some v1∧w.cell? ⟨g,2,none⟩=some v2∧w.cell? ⟨g,3,none⟩=some v3∧w.cell? ⟨g,4,none⟩=some v4∧w.cell? ⟨g,5,none⟩=some v5∧g<w.heap.size:=by
 have h0:=h.cell 0;have h1:=h.cell 1;have h2:=h.cell 2;have h3:=h.cell 3;have h4:=h.cell 4;have h5:=h.cell 5
 simp at h0 h1 h2 h3 h4 h5
 exact⟨h0,h1,h2,h3,h4,h5,h.lt⟩
theorem atB_snoc {part:ByteArray} {l:List Co} {k:Nat} {x:Co} (h:l[k]?=some x):atB part (l.take (k+1))=(atB part (l.take k)||decide (x.name=part)):=by
 unfold atB
 rw[take_succ_of' h,List.any_append]
 simp[Bool.or_assoc]
theorem strE (s:ByteArray):(s.toList==[])=noS s:=by
 cases h:noS s
 ·have:=str_some h
  cases hq:s.toList with
  | nil=>rw[hq] at this;cases this
  | cons a r=>rfl
 ·rw[str_empty h];rfl
theorem rheads_any (F:Nat→Prop) (name src part:ByteArray) (fuel:Int) (Ap Ab:Option Addr) (np cp nb cb:Nat) (params:List Co) (w:World) (hp:LsAt F w 2 CoRow Ap np cp params) (okn:okS name) (oks:okS src) :
  Calls Tryz.prog 15 #[.agg #[.string name,.string src,.string part,.int .i64 fuel,.slice Ap np cp,.slice Ab nb cb]] w fun e w'=>e=.returned (.bool (refH name src part fuel params))∧Below w.heap.size w w':=by
 have hnp:=hp.n_le
 have Hl:=Lhd (LsAt.len hp)
 obtain⟨w2,Hw2⟩:∃ w2,Hid (w2=w.alloc (.cells #[.string name,.string src,.string part,.int .i64 fuel,.slice Ap np cp,.slice Ab nb cb] 36)):=⟨_,rfl⟩
 have hb2:Below w.heap.size w w2:=by rw[Hw2.out];exact(Below.refl _ _).alloc (Nat.le_refl _) _
 have hx2:IsBlk w2 w.heap.size 36 #[.string name,.string src,.string part,.int .i64 fuel,.slice Ap np cp,.slice Ab nb cb]:=by rw[Hw2.out];exact IsBlk.laid _ _ _
 have HX:=Lhd (fun W (hW:Below w2.heap.size w2 W)=>prBoxK (hx2.as_was (hW.block _ hx2.lt)))
 have Hp2:=Lhd (fun W (hW:Below w2.heap.size w2 W)=>(hp.below hb2).below hW)
 have Hb2:=Lhd hb2
 obtain⟨x0,x1,x2,x3,x4,x5,xl⟩:=prBoxK hx2
 have hse:=strE part
 obtain⟨a0,Ha0⟩:∃ b,Hid (noS part=b):=⟨_,rfl⟩
 rw[Ha0.out] at hse
 have Hat0:Hid (atB part []=a0):=Lhd (by unfold atB;rw[Ha0.out];simp)
 have H22:=Lhd (Below.refl w2.heap.size w2)
 clear hp hx2 hb2
 go_enter Tryz.func15,Tryz.ntmps15
 go_upto_region 1 with (fail)
 rw[← Hw2.out]
 go_wp2
 go_loopw [3,4] (fun u3 i wr=>∃ k:Nat,k≤np∧i=.int .i64 k∧u3=.bool (atB part (params.take k))∧(∀ c∈params.take k,(freeB c.name&&kindB c)=true)∧((params.take k).map Co.name).Nodup∧Below w2.heap.size w2 wr) (fun _ i _=>np-(intOf i).toNat)
 case atStart=>exact⟨0,Nat.zero_le _,rfl,by rw[List.take_zero,Hat0.out],by simp,by simp,H22.out⟩
 case round =>
  clear x0 x1 x2 x3 x4 x5 xl hse
  generalize wr=w7 at *
  obtain⟨k,hk,rfl,rfl,hall,hnd,hB7⟩:=hrel
  obtain⟨av,Hav⟩:∃ b,Hid (atB part (params.take k)=b):=⟨_,rfl⟩
  rw[Hav.out]
  have Hall:=Lhd hall
  have Hnd:=Lhd hnd
  have H27:=Lhd hB7
  have H07:=Lhd (Hb2.out.trans (hB7.mono Hb2.out.size))
  obtain⟨z0,z1,z2,z3,z4,z5,zl⟩:=HX.out w7 hB7
  clear hall hnd hB7
  by_cases hlt:k<np
  ·obtain⟨b,o,c,rfl,hbl,hck,okc,oki,hc0,hc1⟩:=coAt (Hp2.out w7 H27.out) hlt
   have Hck:=Lhd hck
   have hstep:=atB_snoc (part:=part) hck
   rw[Hav.out] at hstep
   have Hstep:=Lhd hstep
   obtain⟨q,Hq⟩:∃ q,Hid (freeB c.name=q):=⟨_,rfl⟩
   have hFc:=fun W=>freeRef_any c.name W okc
   rw[Hq.out] at hFc
   have HFc:=Lhd hFc
   clear hck hFc hstep
   have Hno:Hid (∀ v:Bool,(freeB c.name&&kindB c)=false→refH name src part fuel params=false):=Lhd (fun _ hv=>by
    have h1:params.all (fun c=>freeB c.name&&kindB c)=false:=by rw[List.all_eq_false];exact⟨c,List.mem_of_getElem? Hck.out,by rw[hv];simp⟩
    unfold refH;rw[h1];simp)
   cases q
   ·go_wp2_with (go_at_call 28;refine(HFc.out _).mono ?_;rintro e w8 ⟨rfl,hb8⟩)
    go_ret
    exact⟨ret_bool (by rw[Hno.out true (by rw[Hq.out];rfl)]),H07.out.trans (hb8.mono H07.out.size)⟩
   have Hcc:=Lhd (fun W (hW:Below w2.heap.size w2 W)=>coAt (Hp2.out W hW) hlt)
   by_cases hk1:c.kind<1
   ·have Hkb:Hid (kindB c=false):=Lhd (by unfold kindB;simp;omega)
    go_wp2_with (go_at_call 28;refine(HFc.out _).mono ?_;rintro e w8 ⟨rfl,hb8⟩;(obtain⟨t0,t1,t2,t3,t4,t5,tl⟩:=HX.out w8 (H27.out.trans (hb8.mono H27.out.size)));(have s0:=(hb8.cell (p:=⟨b,o+k*2,none⟩) hbl).trans hc0);(have s1:=(hb8.cell (p:=⟨b,o+k*2+1,none⟩) hbl).trans hc1))
    go_ret
    exact⟨ret_bool (by rw[Hno.out true (by rw[Hkb.out];simp)]),H07.out.trans (hb8.mono H07.out.size)⟩
   by_cases hk3:3<c.kind
   ·have Hkb:Hid (kindB c=false):=Lhd (by unfold kindB;simp;omega)
    go_wp2_with (go_at_call 28;refine(HFc.out _).mono ?_;rintro e w8 ⟨rfl,hb8⟩;(obtain⟨t0,t1,t2,t3,t4,t5,tl⟩:=HX.out w8 (H27.out.trans (hb8.mono H27.out.size)));(have s0:=(hb8.cell (p:=⟨b,o+k*2,none⟩) hbl).trans hc0);(have s1:=(hb8.cell (p:=⟨b,o+k*2+1,none⟩) hbl).trans hc1))
    go_ret
    exact⟨ret_bool (by rw[Hno.out true (by rw[Hkb.out];simp)]),H07.out.trans (hb8.mono H07.out.size)⟩
   have Hkb:Hid (kindB c=true):=Lhd (by unfold kindB;simp;omega)
   obtain⟨he,Hhe⟩:∃ b,Hid (decide (c.name=part)=b):=⟨_,rfl⟩
   have heq:(part.toList==c.name.toList)=he:=by rw[bs_eq,← Hhe.out,decide_eq_decide];exact eq_comm
   cases av
   all_goals
    go_wp2_with (go_at_call 28;refine(HFc.out _).mono ?_;rintro e w8 ⟨rfl,hb8⟩;(obtain⟨t0,t1,t2,t3,t4,t5,tl⟩:=HX.out w8 (H27.out.trans (hb8.mono H27.out.size)));(have s0:=(hb8.cell (p:=⟨b,o+k*2,none⟩) hbl).trans hc0);(have s1:=(hb8.cell (p:=⟨b,o+k*2+1,none⟩) hbl).trans hc1))
    go_quiet (fail)
    go_wp2
    have H28:=Lhd (below_drewN (H27.out.trans (hb8.mono H27.out.size)) nq)
    clear z0 z1 z2 z3 z4 z5 zl t0 t1 t2 t3 t4 t5 tl s0 s1 heq
    go_loopw [5] (fun i wr=>∃ j:Nat,j≤k∧i=.int .i64 j∧(∀ y∈params.take j,(y.name.toList==c.name.toList)=false)∧Below w2.heap.size w2 wr) (fun i _=>k-(intOf i).toNat)
    case atStart=>exact⟨0,Nat.zero_le _,rfl,by simp,H28.out⟩
    case round =>
     obtain⟨j,hj,rfl,hne',hB9⟩:=hrel
     have Hne':=Lhd hne'
     clear hne'
     obtain⟨z0,z1,z2,z3,z4,z5,zl⟩:=HX.out wr hB9
     by_cases hjk:j<k
     ·obtain⟨b',o',y,hA',hbl2,hyj,_,_,hd0,hd1⟩:=coAt (Hp2.out wr hB9) (k:=j) (by omega)
      obtain⟨b'',o'',y'',hA'',hbl3,hyk,_,_,hd2,hd3⟩:=Hcc.out wr hB9
      simp only[Option.some.injEq,Addr.mk.injEq,and_true] at hA' hA''
      obtain⟨rfl,rfl⟩:=hA'
      obtain⟨rfl,rfl⟩:=hA''
      have e2:=Hck.out.symm.trans hyk
      injection e2 with e2
      subst e2
      have Hyj:=Lhd hyj
      clear hyj hyk
      by_cases hsame:(y.name.toList==c.name.toList)=true
      ·have Hf:Hid (refH name src part fuel params=false):=Lhd (by
        have h1:decide (params.map Co.name).Nodup=false:=by
         rw[decide_eq_false_iff_not]
         intro hn2
         have hyx:y.name=c.name:=by simpa [bs_eq] using hsame
         have a1:=(List.getElem?_eq_some_iff.1 Hyj.out)
         have a2:=(List.getElem?_eq_some_iff.1 Hck.out)
         have h3:=(List.getElem_inj (xs:=params.map Co.name) (i:=j) (j:=k) (h₀:=by simpa using a1.1) (h₁:=by simpa using a2.1) hn2).1 (by simp[a1.2,a2.2,hyx])
         omega
        unfold refH;rw[h1];simp)
       have H09:=Lhd (Hb2.out.trans (hB9.mono Hb2.out.size))
       go_wp2
       go_quiet (fail)
       go_wp2
       go_ret
       exact⟨ret_bool (by rw[Hf.out]),below_drewN H09.out _⟩
      ·have hsame:(y.name.toList==c.name.toList)=false:=by simpa using hsame
       have Hnx:=Lhd (mem_take_succ Hyj.out Hne'.out hsame)
       go_wp2
       go_quiet (fail)
       go_wp2
       go_roundw
       case rel=>exact⟨j+1,by omega,by go_num,Hnx.out,below_drewN hB9 _⟩
       case measure=>simp[intOf];omega
     ·have Hf1:=Lhd (mem_take_succ Hck.out Hall.out (P:=fun c=>(freeB c.name&&kindB c)=true) (by rw[Hq.out,Hkb.out];rfl))
      have Hn1:Hid (((params.take (k+1)).map Co.name).Nodup):=Lhd (by
       rw[take_succ_of' Hck.out,List.map_append,List.nodup_append]
       refine⟨Hnd.out,by simp,fun a ha b hb e=>?_⟩
       simp at hb
       obtain⟨y,hy,rfl⟩:=List.mem_map.1 ha
       have hjk':j=k:=by omega
       have h5:=Hne'.out y (by rw[hjk'];exact hy)
       rw[e,hb] at h5
       simp at h5)
      go_wp2
      go_roundw
      case rel=>exact⟨k+1,by omega,by go_num,by rw[Hstep.out,Hhe.out];cases he<;>rfl,Hf1.out,Hn1.out,hB9⟩
      case measure=>simp[intOf];omega
  ·have Hfull:Hid (params.all (fun c=>freeB c.name&&kindB c)=true∧decide (params.map Co.name).Nodup=true∧atB part params=av):=Lhd (by
    have h1:=Hall.out
    have h2:=Hnd.out
    have h3:=Hav.out
    rw[List.take_of_length_le (by rw[Hl.out];omega)] at h1 h2 h3
    exact⟨by rw[List.all_eq_true];exact h1,by simpa using h2,h3⟩)
   obtain⟨es,Hes⟩:∃ b,Hid (noS src=b):=⟨_,rfl⟩
   obtain⟨q2,Hq2⟩:∃ b,Hid (freeB src=b):=⟨_,rfl⟩
   obtain⟨q1,Hq1⟩:∃ b,Hid (freeB name=b):=⟨_,rfl⟩
   have HR:Hid (refH name src part fuel params=(!(!es&&(!q2||decide (0<np)))&&(q1&&decide (np≤8)&&av&&decide (1≤fuel)&&decide (fuel≤2000)))):=Lhd (by
    unfold refH;rw[Hfull.out.1,Hfull.out.2.1,Hfull.out.2.2,Hes.out,Hq2.out,Hq1.out,Hl.out];simp)
   have hF1:=fun W=>freeRef_any name W okn
   have hF2:=fun W=>freeRef_any src W oks
   rw[Hq1.out] at hF1
   rw[Hq2.out] at hF2
   have HF1:=Lhd hF1
   have HF2:=Lhd hF2
   clear hF1 hF2
   have hes:=Hes.out
   cases es
   ·have gs:=str_some hes
    have gs2:(src.toList==[])=false:=by rw[strE,hes]
    have gs3:(src.toList !=[])=true:=by show (!(src.toList==[]))=true;rw[gs2];rfl
    clear hes
    cases q2
    ·skip
     go_wp2_with (first|(go_at_call 28;(with_reducible refine(HF2.out _).mono ?_);rintro e w8 ⟨rfl,hb8⟩;have hB8:=H27.out.trans (hb8.mono H27.out.size);obtain⟨t0,t1,t2,t3,t4,t5,tl⟩:=HX.out w8 hB8)|(go_at_call 28;(with_reducible refine(HF1.out _).mono ?_);rintro e w9 ⟨rfl,hb9⟩;have hB9:Below w2.heap.size w2 w9:=(by first|exact hB8.trans (hb9.mono hB8.size)|exact H27.out.trans (hb9.mono H27.out.size));obtain⟨s0,s1,s2,s3,s4,s5,sl⟩:=HX.out w9 hB9))
     go_ret
     exact⟨ret_bool (by rw[HR.out];simp[*]),by first|exact Hb2.out.trans (hB9.mono Hb2.out.size)|exact Hb2.out.trans (hB8.mono Hb2.out.size)⟩
    by_cases h0:0<np
    ·have d0:decide ((0:Int)<(np:Int))=true:=by simp;omega
     go_wp2_with (first|(go_at_call 28;(with_reducible refine(HF2.out _).mono ?_);rintro e w8 ⟨rfl,hb8⟩;have hB8:=H27.out.trans (hb8.mono H27.out.size);obtain⟨t0,t1,t2,t3,t4,t5,tl⟩:=HX.out w8 hB8)|(go_at_call 28;(with_reducible refine(HF1.out _).mono ?_);rintro e w9 ⟨rfl,hb9⟩;have hB9:Below w2.heap.size w2 w9:=(by first|exact hB8.trans (hb9.mono hB8.size)|exact H27.out.trans (hb9.mono H27.out.size));obtain⟨s0,s1,s2,s3,s4,s5,sl⟩:=HX.out w9 hB9))
     go_ret
     exact⟨ret_bool (by rw[HR.out];simp[*]),by first|exact Hb2.out.trans (hB9.mono Hb2.out.size)|exact Hb2.out.trans (hB8.mono Hb2.out.size)⟩
    have d0:decide ((0:Int)<(np:Int))=false:=by simp;omega
    cases q1
    ·skip
     go_wp2_with (first|(go_at_call 28;(with_reducible refine(HF2.out _).mono ?_);rintro e w8 ⟨rfl,hb8⟩;have hB8:=H27.out.trans (hb8.mono H27.out.size);obtain⟨t0,t1,t2,t3,t4,t5,tl⟩:=HX.out w8 hB8)|(go_at_call 28;(with_reducible refine(HF1.out _).mono ?_);rintro e w9 ⟨rfl,hb9⟩;have hB9:Below w2.heap.size w2 w9:=(by first|exact hB8.trans (hb9.mono hB8.size)|exact H27.out.trans (hb9.mono H27.out.size));obtain⟨s0,s1,s2,s3,s4,s5,sl⟩:=HX.out w9 hB9))
     go_ret
     exact⟨ret_bool (by rw[HR.out];simp[*]),by first|exact Hb2.out.trans (hB9.mono Hb2.out.size)|exact Hb2.out.trans (hB8.mono Hb2.out.size)⟩
    have h8:np≤8:=by omega
    have d8:decide ((np:Int)≤8)=true:=by simp;omega
    cases av
    ·skip
     go_wp2_with (first|(go_at_call 28;(with_reducible refine(HF2.out _).mono ?_);rintro e w8 ⟨rfl,hb8⟩;have hB8:=H27.out.trans (hb8.mono H27.out.size);obtain⟨t0,t1,t2,t3,t4,t5,tl⟩:=HX.out w8 hB8)|(go_at_call 28;(with_reducible refine(HF1.out _).mono ?_);rintro e w9 ⟨rfl,hb9⟩;have hB9:Below w2.heap.size w2 w9:=(by first|exact hB8.trans (hb9.mono hB8.size)|exact H27.out.trans (hb9.mono H27.out.size));obtain⟨s0,s1,s2,s3,s4,s5,sl⟩:=HX.out w9 hB9))
     go_ret
     exact⟨ret_bool (by rw[HR.out];simp[*]),by first|exact Hb2.out.trans (hB9.mono Hb2.out.size)|exact Hb2.out.trans (hB8.mono Hb2.out.size)⟩
    by_cases f1:1≤fuel
    rotate_left
    ·have e1:decide (1≤fuel)=false:=by simpa using f1
     go_wp2_with (first|(go_at_call 28;(with_reducible refine(HF2.out _).mono ?_);rintro e w8 ⟨rfl,hb8⟩;have hB8:=H27.out.trans (hb8.mono H27.out.size);obtain⟨t0,t1,t2,t3,t4,t5,tl⟩:=HX.out w8 hB8)|(go_at_call 28;(with_reducible refine(HF1.out _).mono ?_);rintro e w9 ⟨rfl,hb9⟩;have hB9:Below w2.heap.size w2 w9:=(by first|exact hB8.trans (hb9.mono hB8.size)|exact H27.out.trans (hb9.mono H27.out.size));obtain⟨s0,s1,s2,s3,s4,s5,sl⟩:=HX.out w9 hB9))
     go_ret
     exact⟨ret_bool (by rw[HR.out];simp[*]),by first|exact Hb2.out.trans (hB9.mono Hb2.out.size)|exact Hb2.out.trans (hB8.mono Hb2.out.size)⟩
    have e1:decide (1≤fuel)=true:=by simpa using f1
    by_cases f2:fuel≤2000
    ·have e2:decide (fuel≤2000)=true:=by simpa using f2
     go_wp2_with (first|(go_at_call 28;(with_reducible refine(HF2.out _).mono ?_);rintro e w8 ⟨rfl,hb8⟩;have hB8:=H27.out.trans (hb8.mono H27.out.size);obtain⟨t0,t1,t2,t3,t4,t5,tl⟩:=HX.out w8 hB8)|(go_at_call 28;(with_reducible refine(HF1.out _).mono ?_);rintro e w9 ⟨rfl,hb9⟩;have hB9:Below w2.heap.size w2 w9:=(by first|exact hB8.trans (hb9.mono hB8.size)|exact H27.out.trans (hb9.mono H27.out.size));obtain⟨s0,s1,s2,s3,s4,s5,sl⟩:=HX.out w9 hB9))
     go_ret
     exact⟨ret_bool (by rw[HR.out];simp[*]),by first|exact Hb2.out.trans (hB9.mono Hb2.out.size)|exact Hb2.out.trans (hB8.mono Hb2.out.size)⟩
    ·have e2:decide (fuel≤2000)=false:=by simpa using f2
     go_wp2_with (first|(go_at_call 28;(with_reducible refine(HF2.out _).mono ?_);rintro e w8 ⟨rfl,hb8⟩;have hB8:=H27.out.trans (hb8.mono H27.out.size);obtain⟨t0,t1,t2,t3,t4,t5,tl⟩:=HX.out w8 hB8)|(go_at_call 28;(with_reducible refine(HF1.out _).mono ?_);rintro e w9 ⟨rfl,hb9⟩;have hB9:Below w2.heap.size w2 w9:=(by first|exact hB8.trans (hb9.mono hB8.size)|exact H27.out.trans (hb9.mono H27.out.size));obtain⟨s0,s1,s2,s3,s4,s5,sl⟩:=HX.out w9 hB9))
     go_ret
     exact⟨ret_bool (by rw[HR.out];simp[*]),by first|exact Hb2.out.trans (hB9.mono Hb2.out.size)|exact Hb2.out.trans (hB8.mono Hb2.out.size)⟩
   ·have gs:=str_empty hes
    clear hes
    cases q1
    ·skip
     go_wp2_with (first|(go_at_call 28;(with_reducible refine(HF2.out _).mono ?_);rintro e w8 ⟨rfl,hb8⟩;have hB8:=H27.out.trans (hb8.mono H27.out.size);obtain⟨t0,t1,t2,t3,t4,t5,tl⟩:=HX.out w8 hB8)|(go_at_call 28;(with_reducible refine(HF1.out _).mono ?_);rintro e w9 ⟨rfl,hb9⟩;have hB9:Below w2.heap.size w2 w9:=(by first|exact hB8.trans (hb9.mono hB8.size)|exact H27.out.trans (hb9.mono H27.out.size));obtain⟨s0,s1,s2,s3,s4,s5,sl⟩:=HX.out w9 hB9))
     go_ret
     exact⟨ret_bool (by rw[HR.out];simp[*]),by first|exact Hb2.out.trans (hB9.mono Hb2.out.size)|exact Hb2.out.trans (hB8.mono Hb2.out.size)⟩
    by_cases h8:np≤8
    rotate_left
    ·have d8:decide ((np:Int)≤8)=false:=by simp;omega
     go_wp2_with (first|(go_at_call 28;(with_reducible refine(HF2.out _).mono ?_);rintro e w8 ⟨rfl,hb8⟩;have hB8:=H27.out.trans (hb8.mono H27.out.size);obtain⟨t0,t1,t2,t3,t4,t5,tl⟩:=HX.out w8 hB8)|(go_at_call 28;(with_reducible refine(HF1.out _).mono ?_);rintro e w9 ⟨rfl,hb9⟩;have hB9:Below w2.heap.size w2 w9:=(by first|exact hB8.trans (hb9.mono hB8.size)|exact H27.out.trans (hb9.mono H27.out.size));obtain⟨s0,s1,s2,s3,s4,s5,sl⟩:=HX.out w9 hB9))
     go_ret
     exact⟨ret_bool (by rw[HR.out];simp[*]),by first|exact Hb2.out.trans (hB9.mono Hb2.out.size)|exact Hb2.out.trans (hB8.mono Hb2.out.size)⟩
    have d8:decide ((np:Int)≤8)=true:=by simp;omega
    cases av
    ·skip
     go_wp2_with (first|(go_at_call 28;(with_reducible refine(HF2.out _).mono ?_);rintro e w8 ⟨rfl,hb8⟩;have hB8:=H27.out.trans (hb8.mono H27.out.size);obtain⟨t0,t1,t2,t3,t4,t5,tl⟩:=HX.out w8 hB8)|(go_at_call 28;(with_reducible refine(HF1.out _).mono ?_);rintro e w9 ⟨rfl,hb9⟩;have hB9:Below w2.heap.size w2 w9:=(by first|exact hB8.trans (hb9.mono hB8.size)|exact H27.out.trans (hb9.mono H27.out.size));obtain⟨s0,s1,s2,s3,s4,s5,sl⟩:=HX.out w9 hB9))
     go_ret
     exact⟨ret_bool (by rw[HR.out];simp[*]),by first|exact Hb2.out.trans (hB9.mono Hb2.out.size)|exact Hb2.out.trans (hB8.mono Hb2.out.size)⟩
    by_cases f1:1≤fuel
    rotate_left
    ·have e1:decide (1≤fuel)=false:=by simpa using f1
     go_wp2_with (first|(go_at_call 28;(with_reducible refine(HF2.out _).mono ?_);rintro e w8 ⟨rfl,hb8⟩;have hB8:=H27.out.trans (hb8.mono H27.out.size);obtain⟨t0,t1,t2,t3,t4,t5,tl⟩:=HX.out w8 hB8)|(go_at_call 28;(with_reducible refine(HF1.out _).mono ?_);rintro e w9 ⟨rfl,hb9⟩;have hB9:Below w2.heap.size w2 w9:=(by first|exact hB8.trans (hb9.mono hB8.size)|exact H27.out.trans (hb9.mono H27.out.size));obtain⟨s0,s1,s2,s3,s4,s5,sl⟩:=HX.out w9 hB9))
     go_ret
     exact⟨ret_bool (by rw[HR.out];simp[*]),by first|exact Hb2.out.trans (hB9.mono Hb2.out.size)|exact Hb2.out.trans (hB8.mono Hb2.out.size)⟩
    have e1:decide (1≤fuel)=true:=by simpa using f1
    by_cases f2:fuel≤2000
    ·have e2:decide (fuel≤2000)=true:=by simpa using f2
     go_wp2_with (first|(go_at_call 28;(with_reducible refine(HF2.out _).mono ?_);rintro e w8 ⟨rfl,hb8⟩;have hB8:=H27.out.trans (hb8.mono H27.out.size);obtain⟨t0,t1,t2,t3,t4,t5,tl⟩:=HX.out w8 hB8)|(go_at_call 28;(with_reducible refine(HF1.out _).mono ?_);rintro e w9 ⟨rfl,hb9⟩;have hB9:Below w2.heap.size w2 w9:=(by first|exact hB8.trans (hb9.mono hB8.size)|exact H27.out.trans (hb9.mono H27.out.size));obtain⟨s0,s1,s2,s3,s4,s5,sl⟩:=HX.out w9 hB9))
     go_ret
     exact⟨ret_bool (by rw[HR.out];simp[*]),by first|exact Hb2.out.trans (hB9.mono Hb2.out.size)|exact Hb2.out.trans (hB8.mono Hb2.out.size)⟩
    ·have e2:decide (fuel≤2000)=false:=by simpa using f2
     go_wp2_with (first|(go_at_call 28;(with_reducible refine(HF2.out _).mono ?_);rintro e w8 ⟨rfl,hb8⟩;have hB8:=H27.out.trans (hb8.mono H27.out.size);obtain⟨t0,t1,t2,t3,t4,t5,tl⟩:=HX.out w8 hB8)|(go_at_call 28;(with_reducible refine(HF1.out _).mono ?_);rintro e w9 ⟨rfl,hb9⟩;have hB9:Below w2.heap.size w2 w9:=(by first|exact hB8.trans (hb9.mono hB8.size)|exact H27.out.trans (hb9.mono H27.out.size));obtain⟨s0,s1,s2,s3,s4,s5,sl⟩:=HX.out w9 hB9))
     go_ret
     exact⟨ret_bool (by rw[HR.out];simp[*]),by first|exact Hb2.out.trans (hB9.mono Hb2.out.size)|exact Hb2.out.trans (hB8.mono Hb2.out.size)⟩
def headR (op n:Int) (s name src:ByteArray) (l:Nat):Bool:=decide (arityB op=(l:Int))&&fieldsR op n s name src
theorem headR_1 {n:Int} {s name src:ByteArray} {l:Nat}:headR 1 n s name src l=(decide (l=0)&&(decide (0≤n)&&noS s&&noS name&&noS src)):=by
 have ha:arityB 1=0:=rfl
 have hf:fieldsR 1 n s name src=(decide (0≤n)&&noS s&&noS name&&noS src):=rfl
 rw[headR,ha,hf]
 congr 1
 rw[decide_eq_decide];omega
theorem headR_2 {n:Int} {s name src:ByteArray} {l:Nat}:headR 2 n s name src l=(decide (l=0)&&(decide (s.size≤200)&&decide (n=0)&&noS name&&noS src)):=by
 have ha:arityB 2=0:=rfl
 have hf:fieldsR 2 n s name src=(decide (s.size≤200)&&decide (n=0)&&noS name&&noS src):=rfl
 rw[headR,ha,hf]
 congr 1
 rw[decide_eq_decide];omega
theorem headR_3 {n:Int} {s name src:ByteArray} {l:Nat}:headR 3 n s name src l=(decide (l=0)&&((decide (n=0)||decide (n=1))&&noS s&&noS name&&noS src)):=by
 have ha:arityB 3=0:=rfl
 have hf:fieldsR 3 n s name src=((decide (n=0)||decide (n=1))&&noS s&&noS name&&noS src):=rfl
 rw[headR,ha,hf]
 congr 1
 rw[decide_eq_decide];omega
theorem headR_4 {n:Int} {s name src:ByteArray} {l:Nat}:headR 4 n s name src l=(decide (l=0)&&(freeB name&&decide (n=0)&&noS s&&noS src)):=by
 have ha:arityB 4=0:=rfl
 have hf:fieldsR 4 n s name src=(freeB name&&decide (n=0)&&noS s&&noS src):=rfl
 rw[headR,ha,hf]
 congr 1
 rw[decide_eq_decide];omega
theorem headR_5 {n:Int} {s name src:ByteArray} {l:Nat}:headR 5 n s name src l=(decide (l=0)&&(freeB name&&freeB s&&decide (n=0)&&noS src)):=by
 have ha:arityB 5=0:=rfl
 have hf:fieldsR 5 n s name src=(freeB name&&freeB s&&decide (n=0)&&noS src):=rfl
 rw[headR,ha,hf]
 congr 1
 rw[decide_eq_decide];omega
theorem headR_21 {n:Int} {s name src:ByteArray} {l:Nat}:headR 21 n s name src l=(decide (l=1)&&(freeB name&&freeB src&&decide (n=0)&&noS s)):=by
 have ha:arityB 21=1:=rfl
 have hf:fieldsR 21 n s name src=(freeB name&&freeB src&&decide (n=0)&&noS s):=rfl
 rw[headR,ha,hf]
 congr 1
 rw[decide_eq_decide];omega
theorem headR_r {n:Int} {s name src:ByteArray} {l:Nat} (op:Int) (h:22≤op) (h':op≤24):headR op n s name src l=(decide (l=2)&&(freeB name&&freeB src&&decide (n=0)&&noS s)):=by
 have ha:arityB op=2:=by unfold arityB;repeat (first|rw[if_pos (by omega)]|rw[if_neg (by omega)])
 have hf:fieldsR op n s name src=(freeB name&&freeB src&&decide (n=0)&&noS s):=by
  unfold fieldsR
  have hr:rowsB op=true:=by simp[rowsB];omega
  repeat (rw[if_neg (by omega)])
  rw[if_pos hr]
 rw[headR,ha,hf]
 congr 1
 rw[decide_eq_decide];omega
theorem headR_t {n:Int} {s name src:ByteArray} {l:Nat} (op:Int) (h:6≤op) (h':op≤18):headR op n s name src l=(decide (l=2)&&(decide (n=0)&&noS s&&noS name&&noS src)):=by
 have ha:arityB op=2:=by unfold arityB;repeat (first|rw[if_pos (by omega)]|rw[if_neg (by omega)])
 have hf:fieldsR op n s name src=(decide (n=0)&&noS s&&noS name&&noS src):=by
  unfold fieldsR
  have hr:rowsB op=false:=by simp[rowsB];omega
  repeat (rw[if_neg (by omega)])
  rw[hr];rfl
 rw[headR,ha,hf]
 congr 1
 rw[decide_eq_decide];omega
theorem headR_19 {n:Int} {s name src:ByteArray} {l:Nat}:headR 19 n s name src l=(decide (l=1)&&(decide (n=0)&&noS s&&noS name&&noS src)):=by
 have ha:arityB 19=1:=rfl
 have hf:fieldsR 19 n s name src=(decide (n=0)&&noS s&&noS name&&noS src):=rfl
 rw[headR,ha,hf]
 congr 1
 rw[decide_eq_decide];omega
theorem headR_20 {n:Int} {s name src:ByteArray} {l:Nat}:headR 20 n s name src l=(decide (l=1)&&(decide (n=0)&&noS s&&noS name&&noS src)):=by
 have ha:arityB 20=1:=rfl
 have hf:fieldsR 20 n s name src=(decide (n=0)&&noS s&&noS name&&noS src):=rfl
 rw[headR,ha,hf]
 congr 1
 rw[decide_eq_decide];omega
theorem set_other {w:World} {g i:Nat} {u:Value} {p:Addr} (h:p.block≠g):(w.setCell ⟨g,i,none⟩ u).cell? p=w.cell? p:=World.cell?_of_block (Below.heap_setCell _ _ _ _ h)
def RBuilts (F:Nat→Prop) (d:Nat):Prop:=∀ (e:Ex) (row:List Value) (w:World),ExAt F d w row e →
 Calls Tryz.prog 52 #[.agg row.toArray] w fun x w'=>x=.returned (.bool (builtE d e))∧Below w.heap.size w w'
theorem str_neq {s:ByteArray} (h:noS s=false):s.toList.isEmpty=false∧(s.toList==[])=false∧(s.toList !=[])=true:=by
 have h1:=str_some h
 cases hq:s.toList<;>simp_all
theorem z_yes {n:Int} (h:decide (n=0)=true):(n==0)=true∧(n !=0)=false:=by simpa using h
theorem z_no {n:Int} (h:decide (n=0)=false):(n==0)=false∧(n !=0)=true:=by simpa using h
theorem n0_yes {n:Int} (h:decide (0≤n)=true):max n 0=n:=by simp at h;omega
theorem n0_no {n:Int} (h:decide (0≤n)=false):max n 0=0∧(n !=0)=true:=by simp at h ⊢;omega
theorem n01_yes {n:Int} (h:(decide (n=0)||decide (n=1))=true):max n 0=n∧min n 1=n:=by simp at h;omega
theorem n01_no {n:Int} (h:(decide (n=0)||decide (n=1))=false):(n !=min (max n 0) 1)=true:=by simp at h ⊢;omega
theorem s2_yes {s:ByteArray} (h:decide (s.size≤200)=true):decide ((200:Int)<(s.size:Int))=false:=by simp at h ⊢;omega
theorem s2_no {s:ByteArray} (h:decide (s.size≤200)=false):decide ((200:Int)<(s.size:Int))=true:=by simp at h ⊢;omega
theorem l0_no {m:Nat} (h:decide (m=0)=false):((m:Int) !=0)=true:=by simp at h ⊢;omega
theorem l1_no {m:Nat} (h:decide (m=1)=false):((m:Int) !=1)=true:=by simp at h ⊢;omega
theorem l2_no {m:Nat} (h:decide (m=2)=false):((m:Int) !=2)=true:=by simp at h ⊢;omega
end Go.Proofs.YtmfcmpnlipnopaaGreat
