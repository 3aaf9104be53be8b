/- Parts of this proof, one behind the other: FloC, FloE, FloF. -/
import Derived.Test.YtomfpjgcficlgaaGreatFn25
import Derived.Test.YtomfpjgcficlgaaGreatFn6
import Derived.Test.YtomfpjgcficlgaaGreatFn3
import Derived.Deep.LoopGhost
set_option maxRecDepth 1000000
set_option maxHeartbeats 40000000
namespace Go.Proofs.YtomfpjgcficlgaaGreat
open Go.RowKit Go.Afx Go.Maps
def OwnsB (w:World) (ns:List ByteArray) (e:Ending) (w':World):Prop :=
 ∃ A c,e=.returned (.slice A ns.length c)∧w'.ownsRow w.heap.size 9 1 (.slice A ns.length c) ns.length (ns.map Value.string)∧Below w.heap.size w w'
theorem sortN_enc (l:List ByteArray):(sortedB l).map encStr=(sortN l).map Value.string:=by
 unfold sortN sortedB bytesL
 rw[List.map_map];rfl
theorem names_filter {M:List Stp} {p:Stp→Bool} (hn:(M.map Stp.name).Nodup) {seen:List ByteArray} (h:seen.Perm (M.map Stp.name)):sortN (seen.filter fun x=>p (stp M x))=namesN M p:=by
 refine sortN_of_perm ((h.filter _).trans ?_)
 rw[List.filter_map]
 have e:M.filter ((fun x=>p (stp M x)) ∘ Stp.name)=M.filter p:=List.filter_congr fun s hs=>by simp only[Function.comp];rw[stp_of hn hs]
 rw[e]
theorem strRow (l:List ByteArray):(l.map fun s=>[Value.string s]).flatten=l.map Value.string:=by induction l<;>simp_all
theorem own_row_ne {w:World} {base r:Nat} {e:TypeId} {sz:Nat} {A:Option Addr} {n c:Nat} {xs:List Value} (h:w.ownsRow base e sz (.slice A n c) n xs) (hr:r<base):¬ A.map (·.block)=some r:=by
 rcases h.2 with ⟨hv,_⟩|⟨g,cap,cur,hv,hb,_⟩
 ·injection hv with h1;subst h1;simp
 ·injection hv with h1;subst h1;simp;omega
theorem tyS1:ElemTy Tryz.prog 23 9 1 16 (.string ByteArray.empty):=tyStr
theorem own_take {l:List ByteArray} {x:ByteArray} {q:ByteArray→Bool}:(l++[x]).filter q=l.filter q++(if q x then [x] else []):=by
 rw[List.filter_append]
 cases h:q x<;>simp[h]
theorem namesC_any (n0:Nat) (w:World) (b:Nat) (M:List Stp) (g:Nat) (S:List ByteArray) (hN:NetAt n0 w b M) (hg:BoxS w g S) :
  Calls Tryz.prog 37 #[.map (some b),.func (.func 44) #[] #[.pointer (some ⟨g,0,none⟩)]] w (OwnsB w (namesN M (consB S))):=by
 obtain⟨V,hm,hV⟩:=hN.at_
 have hn0:=hN.le
 have hbn:=hN.lt
 have hfew:=hN.few
 have Hk:Hid ((stpE V M).map (·.1)=M.map Stp.name):=Lhd (stpE_keys V M)
 have Hone:=Lhd hN.once
 have Hg:=Lhd hg
 clear hg
 go_enter Tryz.func37,Tryz.ntmps37
 go_wp2_with (at_range;refine wpList_rangeB rfl rfl Tryz.underlying9 Tryz.underlying68 rfl hm ?_;intro w0 hrg0 hb0 hs0)
 go_frame
 go_loopw [5] (fun v wr=>∃ (seen:List ByteArray) (A:Option Addr) (n c:Nat),v=.slice A n c∧RangeAt Tryz.prog 9 wr b w.heap.size (stpE V M) seen∧n=(seen.filter fun x=>consB S (stp M x)).length∧wr.ownsRow (w.heap.size+1) 9 1 (.slice A n c) n ((seen.filter fun x=>consB S (stp M x)).map fun s=>[Value.string s]).flatten∧Below w.heap.size w wr∧w.heap.size+1≤wr.heap.size)
  (fun _ wr=>wr.rangeLeft b w.heap.size)
 case atStart=>exact⟨[],none,0,0,rfl,hrg0,rfl,World.ownsRow_nil _ _ _ _,hb0,by omega⟩
 case round =>
  obtain⟨seen,A,n,c,rfl,hrg,hn,hown,hb,hsz⟩:=hrel
  have Hn:=Lhd hn
  have Hown:=Lhd hown
  clear hn hown
  have hA1:=own_row_ne Hown.out (r:=w.heap.size) (by omega)
  have hA2:=own_row_ne Hown.out (r:=b) (by omega)
  have hlen:n≤1000:=by
   rw[Hn.out]
   refine Nat.le_trans (List.length_filter_le _ _) ?_
   have h1:=(List.Nodup.length_le_of_subset hrg.nodup hrg.sub)
   rw[Hk.out,List.length_map] at h1
   omega
  go_wp2_with (at_next;refine wpList_nextB rfl rfl Tryz.underlying9 rfl hrg ?_ ?_)
  ·intro hperm
   have Hp:=Lhd (names_filter (p:=consB S) Hone.out (Hk.out▸hperm))
   have hrow:=Hown.out
   rw[strRow] at hrow
   have Hs:=Lhd (sortS_any _ A n c (seen.filter fun x=>consB S (stp M x)) wr Hn.out.symm (by omega) hrow)
   clear hperm hrow
   go_wp2_with (go_at_call 25;refine Hs.out.mono ?_;rintro e w2 ⟨rfl,hrow2,hb2⟩)
   go_ret
   rw[sortN_enc,Hp.out] at hrow2
   have hl:(namesN M (consB S)).length=n:=by rw[← Hp.out,sortN_length,← Hn.out]
   refine⟨A,c,by rw[hl];rfl,by rw[hl];exact own_base hrow2 (by omega),hb.trans (hb2.mono (by omega))⟩
  ·intro s v w1 hmem hnew hs hrg1 hlt hb1 hs1 hen
   obtain⟨st,hst,rfl,rfl⟩:=stpE_mem hmem
   have hstp:=stp_of Hone.out hst
   have hbw1:Below w.heap.size w w1:=hb.trans (hb1.below' (by omega) (fun i hi=>by omega))
   have hown1:w1.ownsRow (w.heap.size+1) 9 1 (.slice A n c) n _:=own_but Hown.out hb1 (fun g hg=>by intro e;subst e;apply hA1;cases A<;>simp_all [Value.ownBlock])
   have Hown1:=Lhd hown1
   have hV1:=(hV st hst)
   generalize hVs:V st.name=vs at hen hmem hV1
   obtain⟨vA,vn,vc⟩:=vs
   unfold stpV at hen hmem
   rw[hVs] at hen hmem
   simp only[] at hen hmem hV1
   obtain⟨nm,sr,em⟩:=st
   simp only[] at *
   obtain⟨w2,Hw2⟩:∃ w2,Hid (w2=w1.alloc (.cells #[.string nm,.string sr,.slice vA vn vc] 73)):=⟨_,rfl⟩
   have Hc:=Lhd (fun W (hW:Below w.heap.size w W)=>consC_any g S nm sr vA vn vc W (Hg.out.below hW))
   have hq:consB S ⟨nm,sr,em⟩=(decide (sr≠ByteArray.empty)&&decide (sr∈S)):=rfl
   generalize (decide (sr≠ByteArray.empty)&&decide (sr∈S))=q at *
   have Hq:=Lhd hq
   have Hstp:=Lhd hstp
   have hnum:IntKind.i64.wrap 0=0:=by decide
   have Hs1:=Lhd hs1
   clear hq hstp hs1 hmem hown1 hV1 hVs
   have hbw2:Below w.heap.size w (w1.alloc (.cells #[.string nm,.string sr,.slice vA vn vc] 73)):=hbw1.alloc (by have:=Hs1.out;omega) _
   have Hbw2:=Lhd hbw2
   clear hbw2
   cases q
   ·go_wp2_with (go_at_call 44;refine(Hc.out _ Hbw2.out).mono ?_;rintro e w3 ⟨rfl,hb3⟩)
    have hb13:Below w1.heap.size w1 w3:=((Below.refl _ _).alloc (Nat.le_refl _) _).trans (hb3.mono (by simp))
    obtain⟨hr3,hl3⟩:=hrg1.but (But.of_below (S:=fun _=>False) hb13) id id
    go_roundw
    case rel=>exact⟨_,A,n,c,rfl,hr3,by rw[own_take,Hstp.out,Hq.out];simpa using Hn.out,by rw[own_take,Hstp.out,Hq.out];simpa using own_below Hown1.out hb13,hbw1.trans (hb13.mono (by have:=Hs1.out;omega)),by have:=hb13.size;have:=Hs1.out;omega⟩
    case measure=>rw[hl3];exact hlt
   ·go_wp2_with (first|(go_at_call 44;refine(Hc.out _ Hbw2.out).mono ?_;rintro e w3 ⟨rfl,hb3⟩;have hb13:Below w1.heap.size w1 w3:=((Below.refl _ _).alloc (Nat.le_refl _) _).trans (hb3.mono (by simp));have hown3:=own_below Hown1.out hb13;have hz3:=hb13.size)|(at_builtin;refine wpList_app rfl rfl tyS1 rfl (own_below hown3 ((Below.refl _ _).alloc (Nat.le_refl _) _)) rfl (RowsAt.lit _ [[.string nm]] 1 rfl (by simp) rfl (by unfold maxLen;omega)) (by simp) (by simp[Value.oneCell']) ?_ ?_ ?_ ?_;(unfold maxLen;omega);omega;(simp;have:=Hs1.out;omega);intro A4 c4 w4 hown4 hbut4 hf4))
    have hb14:But (fun k=>A.map (·.block)=some k) w1 w4:=((But.of_below hb13).alloc _).trans' hbut4
    obtain⟨hr4,hl4⟩:=hrg1.but hb14 hA2 hA1
    go_roundw
    case rel=>exact⟨_,A4,_,c4,rfl,hr4,by rw[own_take,Hstp.out,Hq.out,List.length_append,← Hn.out];rfl,by rw[own_take,Hstp.out,Hq.out,List.map_append];exact hown4,hbw1.trans (hb14.below' (by have:=Hs1.out;omega) (fun i hi=>by rcases Nat.lt_or_ge i w.heap.size with h|h;exact absurd hi (own_row_ne Hown.out (by omega));exact h)),by have:=hb14.size;have:=Hs1.out;omega⟩
    case measure=>rw[hl4];exact hlt
theorem namesE_any (n0:Nat) (w:World) (b:Nat) (M:List Stp) (g:Nat) (S:List ByteArray) (hN:NetAt n0 w b M) (hg:BoxS w g S) :
  Calls Tryz.prog 37 #[.map (some b),.func (.func 38) #[] #[.pointer (some ⟨g,0,none⟩)]] w (OwnsB w (namesN M (emitB S))):=by
 obtain⟨V,hm,hV⟩:=hN.at_
 have hn0:=hN.le
 have hbn:=hN.lt
 have hfew:=hN.few
 have Hk:Hid ((stpE V M).map (·.1)=M.map Stp.name):=Lhd (stpE_keys V M)
 have Hone:=Lhd hN.once
 have Hg:=Lhd hg
 clear hg
 go_enter Tryz.func37,Tryz.ntmps37
 go_wp2_with (at_range;refine wpList_rangeB rfl rfl Tryz.underlying9 Tryz.underlying68 rfl hm ?_;intro w0 hrg0 hb0 hs0)
 go_frame
 go_loopw [5] (fun v wr=>∃ (seen:List ByteArray) (A:Option Addr) (n c:Nat),v=.slice A n c∧RangeAt Tryz.prog 9 wr b w.heap.size (stpE V M) seen∧n=(seen.filter fun x=>emitB S (stp M x)).length∧wr.ownsRow (w.heap.size+1) 9 1 (.slice A n c) n ((seen.filter fun x=>emitB S (stp M x)).map fun s=>[Value.string s]).flatten∧Below w.heap.size w wr∧w.heap.size+1≤wr.heap.size)
  (fun _ wr=>wr.rangeLeft b w.heap.size)
 case atStart=>exact⟨[],none,0,0,rfl,hrg0,rfl,World.ownsRow_nil _ _ _ _,hb0,by omega⟩
 case round =>
  obtain⟨seen,A,n,c,rfl,hrg,hn,hown,hb,hsz⟩:=hrel
  have Hn:=Lhd hn
  have Hown:=Lhd hown
  clear hn hown
  have hA1:=own_row_ne Hown.out (r:=w.heap.size) (by omega)
  have hA2:=own_row_ne Hown.out (r:=b) (by omega)
  have hlen:n≤1000:=by
   rw[Hn.out]
   refine Nat.le_trans (List.length_filter_le _ _) ?_
   have h1:=(List.Nodup.length_le_of_subset hrg.nodup hrg.sub)
   rw[Hk.out,List.length_map] at h1
   omega
  go_wp2_with (at_next;refine wpList_nextB rfl rfl Tryz.underlying9 rfl hrg ?_ ?_)
  ·intro hperm
   have Hp:=Lhd (names_filter (p:=emitB S) Hone.out (Hk.out▸hperm))
   have hrow:=Hown.out
   rw[strRow] at hrow
   have Hs:=Lhd (sortS_any _ A n c (seen.filter fun x=>emitB S (stp M x)) wr Hn.out.symm (by omega) hrow)
   clear hperm hrow
   go_wp2_with (go_at_call 25;refine Hs.out.mono ?_;rintro e w2 ⟨rfl,hrow2,hb2⟩)
   go_ret
   rw[sortN_enc,Hp.out] at hrow2
   have hl:(namesN M (emitB S)).length=n:=by rw[← Hp.out,sortN_length,← Hn.out]
   refine⟨A,c,by rw[hl];rfl,by rw[hl];exact own_base hrow2 (by omega),hb.trans (hb2.mono (by omega))⟩
  ·intro s v w1 hmem hnew hs hrg1 hlt hb1 hs1 hen
   obtain⟨st,hst,rfl,rfl⟩:=stpE_mem hmem
   have hstp:=stp_of Hone.out hst
   have hbw1:Below w.heap.size w w1:=hb.trans (hb1.below' (by omega) (fun i hi=>by omega))
   have hown1:w1.ownsRow (w.heap.size+1) 9 1 (.slice A n c) n _:=own_but Hown.out hb1 (fun g hg=>by intro e;subst e;apply hA1;cases A<;>simp_all [Value.ownBlock])
   have Hown1:=Lhd hown1
   have hV1:=(hV st hst)
   generalize hVs:V st.name=vs at hen hmem hV1
   obtain⟨vA,vn,vc⟩:=vs
   unfold stpV at hen hmem
   rw[hVs] at hen hmem
   simp only[] at hen hmem hV1
   obtain⟨nm,sr,em⟩:=st
   simp only[] at *
   obtain⟨w2,Hw2⟩:∃ w2,Hid (w2=w1.alloc (.cells #[.string nm,.string sr,.slice vA vn vc] 73)):=⟨_,rfl⟩
   have Hc:=Lhd (fun W (hW:Below w.heap.size w W)=>emitC_any g S nm sr (fun k=>k<n0) vA vn vc em W (Hg.out.below hW) (hV1.2.kept ⟨hW.size,fun k _ hk=>hW.block k (by omega)⟩))
   have hq:emitB S ⟨nm,sr,em⟩=(em.any fun y=>decide (y∈S)):=rfl
   generalize (em.any fun y=>decide (y∈S))=q at *
   have Hq:=Lhd hq
   have Hstp:=Lhd hstp
   have hnum:IntKind.i64.wrap 0=0:=by decide
   have Hs1:=Lhd hs1
   clear hq hstp hs1 hmem hown1 hV1 hVs
   have hbw2:Below w.heap.size w (w1.alloc (.cells #[.string nm,.string sr,.slice vA vn vc] 73)):=hbw1.alloc (by have:=Hs1.out;omega) _
   have Hbw2:=Lhd hbw2
   clear hbw2
   cases q
   ·go_wp2_with (go_at_call 38;refine(Hc.out _ Hbw2.out).mono ?_;rintro e w3 ⟨rfl,hb3⟩)
    have hb13:Below w1.heap.size w1 w3:=((Below.refl _ _).alloc (Nat.le_refl _) _).trans (hb3.mono (by simp))
    obtain⟨hr3,hl3⟩:=hrg1.but (But.of_below (S:=fun _=>False) hb13) id id
    go_roundw
    case rel=>exact⟨_,A,n,c,rfl,hr3,by rw[own_take,Hstp.out,Hq.out];simpa using Hn.out,by rw[own_take,Hstp.out,Hq.out];simpa using own_below Hown1.out hb13,hbw1.trans (hb13.mono (by have:=Hs1.out;omega)),by have:=hb13.size;have:=Hs1.out;omega⟩
    case measure=>rw[hl3];exact hlt
   ·go_wp2_with (first|(go_at_call 38;refine(Hc.out _ Hbw2.out).mono ?_;rintro e w3 ⟨rfl,hb3⟩;have hb13:Below w1.heap.size w1 w3:=((Below.refl _ _).alloc (Nat.le_refl _) _).trans (hb3.mono (by simp));have hown3:=own_below Hown1.out hb13;have hz3:=hb13.size)|(at_builtin;refine wpList_app rfl rfl tyS1 rfl (own_below hown3 ((Below.refl _ _).alloc (Nat.le_refl _) _)) rfl (RowsAt.lit _ [[.string nm]] 1 rfl (by simp) rfl (by unfold maxLen;omega)) (by simp) (by simp[Value.oneCell']) ?_ ?_ ?_ ?_;(unfold maxLen;omega);omega;(simp;have:=Hs1.out;omega);intro A4 c4 w4 hown4 hbut4 hf4))
    have hb14:But (fun k=>A.map (·.block)=some k) w1 w4:=((But.of_below hb13).alloc _).trans' hbut4
    obtain⟨hr4,hl4⟩:=hrg1.but hb14 hA2 hA1
    go_roundw
    case rel=>exact⟨_,A4,_,c4,rfl,hr4,by rw[own_take,Hstp.out,Hq.out,List.length_append,← Hn.out];rfl,by rw[own_take,Hstp.out,Hq.out,List.map_append];exact hown4,hbw1.trans (hb14.below' (by have:=Hs1.out;omega) (fun i hi=>by rcases Nat.lt_or_ge i w.heap.size with h|h;exact absurd hi (own_row_ne Hown.out (by omega));exact h)),by have:=hb14.size;have:=Hs1.out;omega⟩
    case measure=>rw[hl4];exact hlt
theorem consumers_any (n0:Nat) (w:World) (b:Nat) (M:List Stp) (F:Nat→Prop) (A:Option Addr) (n c:Nat) (S:List ByteArray) (hN:NetAt n0 w b M) (h:LsAt F w 1 SRow A n c S) :
  Calls Tryz.prog 27 #[.map (some b),.slice A n c] w (OwnsB w (consN M S)):=by
 have hb1:Below w.heap.size w (w.alloc (.cells #[.slice A n c] 23)):=(Below.refl _ _).alloc (Nat.le_refl _) _
 have hbx:BoxS (w.alloc (.cells #[.slice A n c] 23)) w.heap.size S:=⟨A,n,c,IsBlk.laid _ _ _,h.conv (Kept.of_below hb1) (fun a ha h0 _=>by have:=h.lt h0 a ha;simp;omega) fun _ _ _ h=>h⟩
 have H:=Lhd (namesC_any n0 _ b M w.heap.size S (hN.later hb1) hbx)
 go_enter Tryz.func27,Tryz.ntmps27
 go_wp2_with (go_at_call 37;refine H.out.mono ?_;rintro e w2 ⟨A2,c2,rfl,hown,hb2⟩)
 go_ret
 exact⟨A2,c2,rfl,own_base hown (by simp),hb1.trans (hb2.mono (by simp))⟩
theorem emitters_any (n0:Nat) (w:World) (b:Nat) (M:List Stp) (F:Nat→Prop) (A:Option Addr) (n c:Nat) (S:List ByteArray) (hN:NetAt n0 w b M) (h:LsAt F w 1 SRow A n c S) :
  Calls Tryz.prog 24 #[.map (some b),.slice A n c] w (OwnsB w (emitN M S)):=by
 have hb1:Below w.heap.size w (w.alloc (.cells #[.slice A n c] 23)):=(Below.refl _ _).alloc (Nat.le_refl _) _
 have hbx:BoxS (w.alloc (.cells #[.slice A n c] 23)) w.heap.size S:=⟨A,n,c,IsBlk.laid _ _ _,h.conv (Kept.of_below hb1) (fun a ha h0 _=>by have:=h.lt h0 a ha;simp;omega) fun _ _ _ h=>h⟩
 have H:=Lhd (namesE_any n0 _ b M w.heap.size S (hN.later hb1) hbx)
 go_enter Tryz.func24,Tryz.ntmps24
 go_wp2_with (go_at_call 37;refine H.out.mono ?_;rintro e w2 ⟨A2,c2,rfl,hown,hb2⟩)
 go_ret
 exact⟨A2,c2,rfl,own_base hown (by simp),hb1.trans (hb2.mono (by simp))⟩
theorem cloneStr_any (A:Option Addr) (n c:Nat) (xs:List ByteArray) (hn:n≤1000000) (w:World) (F:Nat→Prop) (hW:LsAt F w 1 SRow A n c xs) :
  Calls Tryz.prog 71 #[.slice A n c] w fun e w'=>∃ A2 c2,e=.returned (.slice A2 n c2)∧QAt w' w.heap.size A2 n c2 (xs.map Value.string)∧Below w.heap.size w w':=by
 obtain⟨rows,hr,_,hl,hp⟩:=hW
 have hrows:rows=xs.map fun s=>[Value.string s]:=by
  apply List.ext_getElem? ;intro k
  by_cases hk:k<xs.length
  ·have h1:=List.getElem?_eq_getElem (l:=rows) (i:=k) (by omega)
   have h2:=List.getElem?_eq_getElem (l:=xs) (i:=k) hk
   have:=(hp k _ _ h1 h2).2.1
   rw[h1,this,List.getElem?_map,h2];rfl
  ·rw[List.getElem?_eq_none (by omega),List.getElem?_eq_none (by simp;omega)]
 subst hrows
 have q22:∀ (w:World) (a:Option Addr) (n c n' c':Nat),(binOp .eql 23 (.slice a n c) (.slice none n' c')).run Tryz.prog w=.ok (.bool a.isNone) w:=fun w a n c n' c'=>Lib.run_eql_slice_nil w _ _ a n c n' c' Tryz.underlying23
 cases A with
 | none =>
  have h0:xs=[]:=by
   cases xs with
   | nil=>rfl
   | cons a r =>
    obtain⟨b,o,e,_⟩:=hr.at_ 0 _ rfl
    cases e
  subst h0
  obtain rfl:n=0:=by have:=hr.len;simpa using this.symm
  go_enter Tryz.func71,Tryz.ntmps71
  go_wp2
  go_ret
  exact⟨none,0,rfl,QAt.of_own (e:=9) (World.ownsRow_nil _ _ _ _),Below.refl _ _⟩
 | some a =>
  have hW2:RowsAt (w.alloc (.cells #[] 9)) 1 (some a) n c (xs.map fun s=>[Value.string s]):=hr.below ((Below.refl _ _).alloc (Nat.le_refl _) _)
  have hown:(w.alloc (.cells #[] 9)).ownsRow w.heap.size 9 1 (.slice (some ⟨w.heap.size,0,none⟩) 0 0) 0 ([]:List (List Value)).flatten:=World.ownsRow_made w #[] 0 (Nat.le_refl _) (Nat.zero_le _) (by simp)
  go_enter Tryz.func71,Tryz.ntmps71
  go_wp2_with (at_builtin;refine wpList_app rfl rfl tyS1 rfl hown rfl hW2 (by simp) (by simp[Value.oneCell']) ?_ ?_ ?_ ?_;(unfold maxLen;omega);omega;(simp);intro A3 c3 w3 hown3 hbut3 hf3)
  go_ret
  refine⟨A3,c3,by simp,?_,?_⟩
  ·simp only[List.nil_append,strRow,Nat.zero_add] at hown3
   exact QAt.of_own hown3
  ·refine((Below.refl _ _).alloc (Nat.le_refl _) _).trans (hbut3.below' (by simp) (fun i hi=>?_))
   simp at hi;omega
def setE (R:List ByteArray):List (ByteArray×Value):=R.map fun x=>(x,.bool true)
theorem setE_keys (R:List ByteArray):(setE R).map (·.1)=R:=by unfold setE;rw[List.map_map];exact List.map_id _
theorem setE_snoc (R:List ByteArray) (x:ByteArray):setE (R++[x])=setE R++[(x,.bool true)]:=by unfold setE;rw[List.map_append];rfl
theorem ent_setE (R:List ByteArray) (x:ByteArray):(ent (setE R) x).getD (.bool false)=.bool (decide (x∈R)):=by
 by_cases hx:x∈R
 ·have h:(x,Value.bool true)∈setE R:=List.mem_map.2 ⟨x,hx,rfl⟩
  cases he:ent (setE R) x with
  | none=>exact absurd (ent_none.1 he) (by rw[setE_keys];simpa using hx)
  | some v =>
   obtain⟨y,_,e⟩:=List.mem_map.1 (ent_mem he)
   injection e with _ e2
   subst e2
   simp[hx]
 ·have he:ent (setE R) x=none:=ent_none.2 (by rw[setE_keys];exact hx)
  rw[he];simp[hx]
theorem zeroBool (w:World):(zeroValue 4).run Tryz.prog w=.ok (.bool false) w:=by kernel_rfl
def ReachedIs (w:World) (M:List Stp) (S:List ByteArray) (e:Ending) (w':World):Prop :=
 ∃ mb R,e=.returned (.map (some mb))∧MapAt Tryz.prog 9 w' mb (setE R)∧(∀ x,x∈R ↔ Rch M S x)∧Below w.heap.size w w'
structure RchInv (M:List Stp) (S R todo:List ByteArray):Prop where
 wait:∀ x∈todo,Rch M S x
 seen:∀ x∈R,Rch M S x
 start:∀ x∈S,x∈R∨x∈todo
 next:∀ x∈R,∀ y∈consN M (stp M x).ems,y∈R∨y∈todo
 once:R.Nodup
theorem RchInv.skip {M:List Stp} {S R todo:List ByteArray} {x:ByteArray} (h:RchInv M S R (x::todo)) (hx:x∈R):RchInv M S R todo:=by
 have hh:∀ y,y∈R∨y∈x::todo→y∈R∨y∈todo:=by
  rintro y (h|h)
  ·exact .inl h
  ·rcases List.mem_cons.1 h with rfl|h
   ·exact .inl hx
   ·exact .inr h
 exact⟨fun y hy=>h.wait y (by simp[hy]),h.seen,fun y hy=>hh y (h.start y hy),fun y hy z hz=>hh z (h.next y hy z hz),h.once⟩
theorem RchInv.take {M:List Stp} {S R todo:List ByteArray} {x:ByteArray} (h:RchInv M S R (x::todo)) (hx:x ∉ R):RchInv M S (R++[x]) (todo++consN M (stp M x).ems):=by
 have hr:=h.wait x (by simp)
 have hh:∀ y,y∈R∨y∈x::todo→y∈R++[x]∨y∈todo++consN M (stp M x).ems:=by
  rintro y (h|h)
  ·exact .inl (by simp[h])
  ·rcases List.mem_cons.1 h with rfl|h
   ·exact .inl (by simp)
   ·exact .inr (by simp[h])
 refine⟨fun y hy=>?_,fun y hy=>?_,fun y hy=>hh y (h.start y hy),fun y hy z hz=>?_,?_⟩
 ·rcases List.mem_append.1 hy with hy|hy
  ·exact h.wait y (by simp[hy])
  ·exact .step hr hy
 ·rcases List.mem_append.1 hy with hy|hy
  ·exact h.seen y hy
  ·simp at hy;subst hy;exact hr
 ·rcases List.mem_append.1 hy with hy|hy
  ·exact hh z (h.next y hy z hz)
  ·simp at hy;subst hy;exact .inr (by simp[hz])
 ·exact List.nodup_append.2 ⟨h.once,by simp,fun a ha c hc e=>by simp at hc;subst e hc;exact hx ha⟩
theorem RchInv.done {M:List Stp} {S R:List ByteArray} (h:RchInv M S R []) (x:ByteArray):x∈R ↔ Rch M S x:=by
 refine⟨h.seen x,fun hx=>?_⟩
 induction hx with
 | base hx=>exact(h.start _ hx).resolve_right (by simp)
 | step _ hy ih=>exact(h.next _ ih _ hy).resolve_right (by simp)
theorem RchInv.few {M:List Stp} {S R todo:List ByteArray} (h:RchInv M S R todo) (hS:∀ x∈S,x∈M.map Stp.name):R.length≤M.length:=by
 have:=List.Nodup.length_le_of_subset h.once (fun x hx=>Rch.names hS (h.seen x hx))
 rwa [List.length_map] at this
theorem src_own {P:Program} {w:World} {base:Nat} {e tx e':TypeId} {A:Option Addr} {n c:Nat} {us:List Value} (hk:P.underlying tx=some (.slice e')) (h:w.ownsRow base e 1 (.slice A n c) n us) (h1:∀ u∈us,u.oneCell'=true):Src P 1 tx (.slice A n c) n us w:=by
 rcases h.2 with ⟨hv,rfl⟩|⟨g,cap,cur,hv,_⟩
 ·injection hv with e1 e2 e3
  subst e1 e3
  obtain rfl:us=[]:=List.eq_nil_of_length_eq_zero (by simpa using h.1)
  exact Src.ofNil w hk 0
 ·injection hv with e1 e2 e3
  subst e1 e3
  exact Src.ofSlice w hk ⟨g,0,none⟩ n c us h.1 (h.cells (g:=g) rfl) h1
theorem reached_any (n0:Nat) (w:World) (b:Nat) (M:List Stp) (F:Nat→Prop) (A:Option Addr) (n c:Nat) (S:List ByteArray) (hN:NetAt n0 w b M) (h:LsAt F w 1 SRow A n c S) (hS:∀ x∈S,x∈M.map Stp.name) (hnS:n≤1000) (hok:∀ s∈M,okS s.name) :
  Calls Tryz.prog 45 #[.map (some b),.slice A n c] w (ReachedIs w M S):=by
 have hmm:=@run_makeMap Tryz.prog
 have hn0:=hN.le
 have hbn:=hN.lt
 have hfew:=hN.few
 have Hlen:=Lhd h.len
 have hb1:Below w.heap.size w (w.alloc (.map #[] 0)):=(Below.refl _ _).alloc (Nat.le_refl _) _
 have Hcl:=Lhd (cloneStr_any A n c S (by omega) _ F (h.below hb1))
 have HN:=Lhd (fun W (hW:Below w.heap.size w W)=>hN.later hW)
 have hm1:MapAt Tryz.prog 9 (w.alloc (.map #[] 0)) w.heap.size (setE []):=MapAt.made _ _ w
 have Hm1:=Lhd hm1
 clear hm1 h hN
 go_enter Tryz.func45,Tryz.ntmps45
 go_wp2_with (go_at_call 71;refine Hcl.out.mono ?_;rintro e w1 ⟨A1,c1,rfl,hq1,hb2⟩)
 have hz1:(w.alloc (.map #[] 0)).heap.size=w.heap.size+1:=by simp
 rw[hz1] at hq1
 go_loopg [6] (n+M.length*(M.length+1)) (fun g v wr=>∃ (todo R:List ByteArray) (A:Option Addr) (n c:Nat),v=.slice A n c∧QAt wr (w.heap.size+1) A n c (todo.map Value.string)∧MapAt Tryz.prog 9 wr w.heap.size (setE R)∧RchInv M S R todo∧Below w.heap.size w wr∧w.heap.size+1≤wr.heap.size∧todo.length+(M.length-R.length)*(M.length+1)≤g∧g≤2000000)
 case atStart =>
  refine⟨S,[],A1,n,c1,rfl,hq1,Hm1.out.below hb2,⟨fun x hx=>.base hx,by simp,fun x hx=>.inr hx,by simp,by simp⟩,hb1.trans (hb2.mono hb1.size),by have:=hb2.size;omega,?_,?_⟩
  ·rw[Hlen.out];simp
  ·have:=Nat.mul_le_mul hfew (show M.length+1≤1001 by omega);omega
 case round =>
  obtain⟨todo,R,A,n',c,rfl,hq,hM,hI,hb,hsz,hg,hg2⟩:=hrel
  have HI:=Lhd hI
  have Hq:=Lhd hq
  cases todo with
  | nil =>
   obtain rfl:n'=0:=by simpa using hq.len.symm
   go_wp2
   go_ret
   exact⟨_,R,rfl,hM,HI.out.done,hb⟩
  | cons x todo =>
   obtain⟨m,Hm⟩:∃ m,Hid (todo.length=m):=⟨_,rfl⟩
   obtain rfl:n'=m+1:=by have:=hq.len;simp at this;rw[← Hm.out];omega
   obtain⟨c',rfl⟩:∃ k,c=k+1:=⟨c-1,by have:=hq.le;omega⟩
   obtain⟨g,o,rfl,hbg,hgl,hc,hs⟩:=hq.at_ (by omega)
   have hc0:wr.cell? ⟨g,o,none⟩=some (.string x):=hc 0 (by omega)
   have hxM:x∈M.map Stp.name:=Rch.names hS (hI.wait x (by simp))
   have okx:okS x:=by obtain⟨s,hs,rfl⟩:=List.mem_map.1 hxM;exact hok s hs
   have hle:=hq.le
   have hmx:=hq.max
   have hfewR:=hI.few hS
   have hm2:m≤2000000:=by have h1:=hg;have h2:=Hm.out;simp at h1;omega
   have Hg:=Lhd hg
   clear hc hs hI hq hg
   by_cases hx:x∈R
   ·have Hd:=Lhd (show decide (x∈R)=true by simpa using hx)
    have Hx:=Lhd hx
    clear hx
    rcases (show (c'=0∧m=0)∨∃ k,c'=k+1 by rcases c' with _|c';exact .inl ⟨rfl,by omega⟩;exact .inr ⟨c',rfl⟩) with ⟨rfl,rfl⟩|⟨c',rfl⟩
    all_goals
     go_wp2_with (at_lookup;refine wpList_lookB rfl rfl Tryz.underlying9 Tryz.underlying89 (zeroBool _) rfl hM rfl okx ?_;rw[ent_setE,Hd.out])
     go_roundg (todo.length+(M.length-R.length)*(M.length+1))
     case measure=>have:=Hg.out;simp at this;omega
     case rel=>exact⟨todo,R,_,_,_,rfl,Hq.out.pop _ (by simp),hM,HI.out.skip Hx.out,hb,hsz,Nat.le_refl _,by have:=Hg.out;simp at this;omega⟩
   ·have Hd:=Lhd (show decide (x∈R)=false by simpa using hx)
    have Hx:=Lhd hx
    clear hx
    have hfd:∀ (a1 a2:ByteArray) (A:Option Addr) (n c:Nat) (W:World),(Instr.field 73 (.agg #[.string a1,.string a2,.slice A n c]) 2).run Tryz.prog W=.ok (.slice A n c) W:=fun _ _ _ _ _ _=>by kernel_rfl
    have hputn:(setE R).length<1000000:=by unfold setE;rw[List.length_map];omega
    have hputk:x ∉ (setE R).map (·.1):=by rw[setE_keys];exact Hx.out
    have Hfd:=Lhd hfd
    clear hfd
    rcases (show (c'=0∧m=0)∨∃ k,c'=k+1 by rcases c' with _|c';exact .inl ⟨rfl,by omega⟩;exact .inr ⟨c',rfl⟩) with ⟨rfl,rfl⟩|⟨c',rfl⟩
    all_goals
     go_wp2_with (first
      | (at_mapUpdate;refine wpList_putB rfl rfl Tryz.underlying9 Tryz.underlying89 hputn rfl hM rfl okx hputk rfl ?_;intro w1 hM1 hB1;have hb1:Below w.heap.size w w1:=hb.trans (hB1.below' (by omega) (fun k hk=>by subst hk;exact Nat.le_refl _));obtain⟨V,s0,A2,n2,c2,hNm,hv1,hv2,ok2,hL2⟩:=(HN.out w1 hb1).look x;have hfd:=Hfd.out;have Hcon:=Lhd (consumers_any n0 w1 b M _ A2 n2 c2 (stp M x).ems (HN.out w1 hb1) hL2))
      | (at_lookup;have _tok:=Hcon;refine wpList_lookB rfl rfl Tryz.underlying9 Tryz.underlying68 (zeroStp _) rfl hNm rfl okx ?_;rw[hv1])
      | (at_lookup;refine wpList_lookB rfl rfl Tryz.underlying9 Tryz.underlying89 (zeroBool _) rfl hM rfl okx ?_;rw[ent_setE,Hd.out])
      | (go_at_call 27;refine Hcon.out.mono ?_;rintro e w2 ⟨A3,c3,rfl,hown3,hb2⟩;clear hv1 hv2 hfd)
      | (at_builtin;refine wpList_push rfl rfl tyS1 rfl (((Hq.out.pop _ (by simp)).but' hB1 (fun k hk=>by (subst hk;omega))).below hb2) (by (have:=hB1.size;have:=hb2.size;omega)) rfl (src_own Tryz.underlying23 hown3 (by simp[Value.oneCell'])) (by (have:=namesN_length M (consB (stp M x).ems);unfold maxLen consN;omega)) (by (have:=namesN_length M (consB (stp M x).ems);unfold consN;omega)) ?_;intro A4 c4 w4 hq4 hB4 hf4))
     have hb12:Below w.heap.size w w2:=hb1.trans (hb2.mono hb1.size)
     have hsz2:=hb12.size
     have hT:=HI.out.take Hx.out
     have hfew2:=hT.few hS
     have hcl:=namesN_length M (consB (stp M x).ems)
     have Hle:Hid ((todo++consN M (stp M x).ems).length+(M.length-(R++[x]).length)*(M.length+1)<gk):=by
      show _<_
      have h1:=Hg.out
      simp only[List.length_append,List.length_cons,List.length_nil] at h1 hfew2 ⊢
      unfold consN
      obtain⟨d,hd⟩:∃ d,M.length=R.length+1+d:=⟨M.length-(R.length+1),by omega⟩
      rw[show M.length-R.length=d+1 by omega,Nat.succ_mul] at h1
      rw[show M.length-(R.length+(0+1))=d by omega]
      omega
     go_roundg ((todo++consN M (stp M x).ems).length+(M.length-(R++[x]).length)*(M.length+1))
     case measure=>exact Hle.out
     case rel =>
      refine⟨_,R++[x],A4,_,c4,rfl,?_,?_,hT,?_,?_,Nat.le_refl _,Nat.le_trans (Nat.le_of_lt Hle.out) hg2⟩
      ·rw[List.map_append];simpa using hq4
      ·rw[setE_snoc]
       exact(hM1.below hb2).but hB4 (fun hk=>by have h:=(Hq.out.pop _ (by simp):QAt _ _ _ _ _ _).blk hk;have:=h.1;omega)
      ·exact hb12.trans (hB4.below' hsz2 (fun k hk=>by have h:=(Hq.out.pop _ (by simp):QAt _ _ _ _ _ _).blk hk;have:=h.1;omega))
      ·have:=hB4.size;have:=hb2.size;have:=hB1.size;omega
theorem ls_strs {F:Nat→Prop} {w:World} {base:Nat} {A:Option Addr} {n c:Nat} {xs:List ByteArray} (h:w.ownsRow base 9 1 (.slice A n c) n (xs.map Value.string)) (hn:xs.length=n) (hok:∀ s∈xs,okS s) (hF:∀ k,base≤k→k<w.heap.size→F k):LsAt F w 1 SRow A n c xs:=by
 refine⟨xs.map fun s=>[.string s],RowsAt.of_own (by rw[strRow];exact h) (by simp) (by simp[hn]),fun a ha h0=>?_,by simp,fun k r x hr hx=>?_⟩
 ·subst ha
  have:=h.lt a.block rfl
  exact hF _ this.1 this.2
 ·rw[List.getElem?_map,hx] at hr
  simp at hr
  subst hr
  exact⟨rfl,rfl,hok x (List.mem_of_getElem? hx)⟩
theorem NetAt.names {n0:Nat} {w:World} {b:Nat} {M:List Stp} (h:NetAt n0 w b M):∀ s∈M,okS s.name:=by
 obtain⟨V,hm,_⟩:=h.at_
 intro s hs
 exact hm.ok (s.name,stpV V s) (List.mem_map.2 ⟨s,hs,rfl⟩)
theorem NetAt.names_ok {n0:Nat} {w:World} {b:Nat} {M:List Stp} (h:NetAt n0 w b M) {p:Stp→Bool}:∀ x∈namesN M p,okS x:=by
 intro x hx
 obtain⟨s,hs,_,rfl⟩:=namesN_mem.1 hx
 exact h.names s hs
theorem fieldEms (a1 a2:ByteArray) (A:Option Addr) (n c:Nat) (W:World):(Instr.field 73 (.agg #[.string a1,.string a2,.slice A n c]) 2).run Tryz.prog W=.ok (.slice A n c) W:=by kernel_rfl
theorem fieldSrc (a1 a2:ByteArray) (A:Option Addr) (n c:Nat) (W:World):(Instr.field 73 (.agg #[.string a1,.string a2,.slice A n c]) 1).run Tryz.prog W=.ok (.string a2) W:=by kernel_rfl
theorem round_any (n0:Nat) (w:World) (b:Nat) (M:List Stp) (hN:NetAt n0 w b M) :
  Calls Tryz.prog 28 #[.map (some b)] w fun e w'=>(∃ q:Bool,e=.returned (.bool q)∧(q=true ↔ RoundP M))∧Below w.heap.size w w':=by
 obtain⟨V,hm,hV⟩:=hN.at_
 have hn0:=hN.le
 have hbn:=hN.lt
 have hfew:=hN.few
 have Hk:Hid ((stpE V M).map (·.1)=M.map Stp.name):=Lhd (stpE_keys V M)
 have Hone:=Lhd hN.once
 have HN:=Lhd (fun W (hW:Below w.heap.size w W)=>hN.later hW)
 have Hnok:=Lhd hN.names
 clear hN hV
 go_enter Tryz.func28,Tryz.ntmps28
 go_wp2_with (at_range;refine wpList_rangeB rfl rfl Tryz.underlying9 Tryz.underlying68 rfl hm ?_;intro w0 hrg0 hb0 hs0)
 go_frame
 go_loopw [3] (fun _ wr=>∃ (seen:List ByteArray),RangeAt Tryz.prog 9 wr b w.heap.size (stpE V M) seen∧Hid (∀ x∈seen,¬ Rch M (consN M (stp M x).ems) x)∧Below w.heap.size w wr∧w.heap.size+1≤wr.heap.size)
  (fun _ wr=>wr.rangeLeft b w.heap.size)
 case atStart=>exact⟨[],hrg0,Lhd (by simp),hb0,by omega⟩
 case round =>
  obtain⟨seen,hrg,Hno,hb,hsz⟩:=hrel
  go_wp2_with (at_next;refine wpList_nextB rfl rfl Tryz.underlying9 rfl hrg ?_ ?_)
  ·intro hperm
   have Hp:=Lhd (Hk.out▸hperm)
   clear hperm
   go_wp2
   go_ret
   refine⟨⟨false,rfl,by simp;rintro⟨s,hs,hr⟩;exact Hno.out s.name (Hp.out.mem_iff.2 (List.mem_map_of_mem hs)) (by rw[stp_of Hone.out hs];exact hr)⟩,hb⟩
  ·intro s v w1 hmem hnew hs hrg1 hlt hb1 hs1 hen
   obtain⟨st,hst,rfl,rfl⟩:=stpE_mem hmem
   have Hstp:=Lhd (stp_of Hone.out hst)
   have hbw1:Below w.heap.size w w1:=hb.trans (hb1.below' (by omega) (fun i hi=>by omega))
   obtain⟨V1,s0,A2,n2,c2,hNm,hv1,_,ok2,hL2⟩:=(HN.out w1 hbw1).look st.name
   have Hcon:=Lhd (consumers_any n0 w1 b M _ A2 n2 c2 (stp M st.name).ems (HN.out w1 hbw1) hL2)
   rw[Hstp.out] at Hcon
   have Hv1:=Lhd hv1
   have hfd:=fieldEms
   have Hs1:=Lhd hs1
   unfold stpV at hen hmem
   have Hst:=Lhd hst
   clear hv1 hs1 hmem hst hL2 ok2
   go_wp2_with (first
    | (go_at_call 27;refine Hcon.out.mono ?_;rintro e w2 ⟨A3,c3,rfl,hown3,hb2⟩;have hbw2:Below w.heap.size w w2:=hbw1.trans (hb2.mono hbw1.size);have hl3:=ls_strs (F:=fun _=>True) hown3 rfl (fun x hx=>(HN.out w2 hbw2).names_ok x hx) (fun _ _ _=>trivial);have Hre:=Lhd (reached_any n0 w2 b M _ A3 _ c3 (consN M st.ems) (HN.out w2 hbw2) hl3 (fun x hx=>namesN_sub hx) (Nat.le_trans (namesN_length _ _) hfew) Hnok.out))
    | (go_at_call 45;refine Hre.out.mono ?_;rintro e w3 ⟨mb,R,rfl,hMR,hR,hb3⟩;have HR:=Lhd hR;clear hR)
    | (at_lookup;have _t:=hMR;refine wpList_lookB rfl rfl Tryz.underlying9 Tryz.underlying89 (zeroBool _) rfl hMR rfl hs ?_;rw[ent_setE];go_frame)
    | (at_lookup;refine wpList_lookB rfl rfl Tryz.underlying9 Tryz.underlying68 (zeroStp _) rfl hNm rfl hs ?_;rw[Hv1.out]))
   ·have hin:st.name∈R:=by first|assumption|simpa using (by assumption:decide (st.name∈R)=true)
    go_ret
    exact⟨⟨true,rfl,by simp;exact⟨st,Hst.out,(HR.out _).1 hin⟩⟩,hbw2.trans (hb3.mono hbw2.size)⟩
   ·have hin:st.name ∉ R:=by first|assumption|simpa using (by assumption:decide (st.name∈R)=false)
    have Hin:=Lhd hin
    clear hin
    have hb13:Below w1.heap.size w1 w3:=hb2.trans (hb3.mono hb2.size)
    obtain⟨hr3,hl3⟩:=hrg1.but (But.of_below (S:=fun _=>False) hb13) id id
    go_roundw
    case rel =>
     refine⟨_,hr3,Lhd fun x hx=>?_,hbw1.trans (hb13.mono hbw1.size),by have:=hbw1.size;have:=hb13.size;have:=Hs1.out;omega⟩
     rcases List.mem_append.1 hx with hx|hx
     ·exact Hno.out x hx
     ·simp at hx
      subst hx
      rw[Hstp.out]
      exact fun hh=>Hin.out ((HR.out _).2 hh)
    case measure=>rw[hl3];exact hlt
end Go.Proofs.YtomfpjgcficlgaaGreat
