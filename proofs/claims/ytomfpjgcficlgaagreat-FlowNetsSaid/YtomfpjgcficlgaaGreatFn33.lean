/- Parts of this proof, one behind the other: FloNC, FloND, FloNE. -/
import Derived.Test.YtomfpjgcficlgaaGreatFn32
import Derived.Outline
import Derived.Test.YtomfpjgcficlgaaGreatFn31
import Derived.Deep.DeepCutAuto
import Derived.Deep.QuietTactic
import Derived.BigQuiet
import Derived.Deep.RegionHeld3
set_option maxRecDepth 1000000
set_option maxHeartbeats 40000000
namespace Go.Proofs.YtomfpjgcficlgaaGreat
open Go.RowKit Go.Afx
variable {M:List Stp}
theorem puts_sub {L:List ByteArray} (h:∀ x∈L,x∈M.map Stp.name):(putsB [] L).length≤M.length:=by
 have:=sub_len (puts_rises L).nodup (m:=M.map Stp.name) fun x hx=>h x (mem_puts.1 hx)
 rwa [List.length_map] at this
theorem consR_take {k:Nat} {s:Stp} (S:List ByteArray) (h:M[k]?=some s):consR (M.take (k+1)) S=if consB S s then putB (consR (M.take k) S) s.name else consR (M.take k) S:=by
 unfold consR
 rw[List.take_add_one,h,Option.toList_some,List.filter_append,List.map_append,putsB_append]
 cases hq:consB S s
 ·simp[hq,putsB]
 ·simp[hq,putsB]
theorem consR_len (k:Nat) (S:List ByteArray):(consR (M.take k) S).length≤M.length:=puts_sub fun x hx=>by
 obtain⟨s,hs,rfl⟩:=List.mem_map.1 hx
 exact List.mem_map_of_mem (List.mem_of_mem_take (List.mem_filter.1 hs).1)
def emF (S:List ByteArray) (s:Stp) (l:List ByteArray):List ByteArray:=(l.filter fun x=>decide (x∈S)).map fun _=>s.name
theorem emitR_take {k:Nat} {s:Stp} (S:List ByteArray) (h:M[k]?=some s):emitR (M.take (k+1)) S=putsB (emitR (M.take k) S) (emF S s s.ems):=by
 unfold emitR emF
 rw[List.take_add_one,h,Option.toList_some,List.flatMap_append,putsB_append]
 simp
theorem emF_take {j:Nat} {s:Stp} {x:ByteArray} (S l:List ByteArray) (h:s.ems[j]?=some x):putsB l (emF S s (s.ems.take (j+1)))=if decide (x∈S) then putB (putsB l (emF S s (s.ems.take j))) s.name else putsB l (emF S s (s.ems.take j)):=by
 unfold emF
 rw[List.take_add_one,h,Option.toList_some,List.filter_append,List.map_append,putsB_append]
 by_cases hq:x∈S
 ·simp[hq,putsB]
 ·simp[hq,putsB]
theorem emF_len {k:Nat} {s:Stp} (S l:List ByteArray) (h:M[k]?=some s):(putsB (emitR (M.take k) S) (emF S s l)).length≤M.length:=by
 unfold emitR
 rw[← putsB_append]
 refine puts_sub fun x hx=>?_
 rcases List.mem_append.1 hx with hx|hx
 ·obtain⟨t,ht,hx⟩:=List.mem_flatMap.1 hx
  obtain⟨_,_,rfl⟩:=List.mem_map.1 hx
  exact List.mem_map_of_mem (List.mem_of_mem_take ht)
 ·obtain⟨_,_,rfl⟩:=List.mem_map.1 hx
  exact List.mem_map_of_mem (List.mem_of_getElem? h)
def OutIn (w:World) (L:List ByteArray) (u:Value) (wr:World):Prop:=∃ A n c,u=.slice A n c∧NamesAt wr A n c L∧Below w.heap.size w wr
theorem consR_any (F:Nat→Prop) (A A2:Option Addr) (n c n2 c2:Nat) (S:List ByteArray) (w:World) (h:StpsAt F w A n c M) (hS:NamesAt w A2 n2 c2 S) (hn:n≤1000) :
  Calls Tryz.prog 13 #[.slice A n c,.slice A2 n2 c2] w (GivesN w (consR M S)):=by
 have hMl:M.length=n:=LsAt.len h
 have Hl:=Lhd hMl
 have HM:=Lhd (fun W (hW:Below w.heap.size w W)=>h.below hW)
 have HS:=Lhd (fun W (hW:Below w.heap.size w W)=>hS.below hW)
 clear h hS
 go_enter Tryz.func13,Tryz.ntmps13
 go_wp2
 go_loopw [5,6] (fun u5 i wr=>∃ k:Nat,k≤n∧i=.int .i64 k∧OutIn w (consR (M.take k) S) u5 wr) (fun _ i _=>n-(intOf i).toNat)
 case atStart=>exact⟨0,Nat.zero_le _,rfl,none,0,0,rfl,NamesAt.none_ (by unfold maxLen;omega),Below.refl _ _⟩
 case round =>
  generalize wr=w1 at *
  obtain⟨k,hk,rfl,A3,n3,c3,rfl,hN,hB⟩:=hrel
  have hl3:=hN.len
  have hl4:=consR_len (M:=M) k S
  have HN:=Lhd hN
  have HB:=Lhd hB
  clear hN
  by_cases hlt:k<n
  rotate_left
  ·go_wp2
   go_ret
   have h1:=HN.out
   rw[List.take_of_length_le (by rw[Hl.out];omega)] at h1
   exact⟨_,_,_,rfl,h1,HB.out⟩
  obtain⟨b,o,s,A5,n5,c5,rfl,hbl,hs,okn,oks,hc0,hc1,hc2,hls⟩:=StpsAt.get (HM.out w1 hB) hlt
  have Hst:=Lhd (consR_take S hs)
  clear hs hls
  have HSw:=Lhd (HS.out w1 hB)
  clear hB
  obtain⟨q,Hq⟩:∃ q,Hid (decide (s.src∈S)=q):=⟨_,rfl⟩
  by_cases he:s.src=ByteArray.empty
  ·have g1:(s.src.toList==[])=true:=by rw[he];decide +kernel
   have g2:(s.src.toList !=[])=false:=by rw[he];decide +kernel
   have g3:s.src.toList.isEmpty=true:=by rw[he];decide +kernel
   have Hc:Hid (consB S s=false):=Lhd (by unfold consB;rw[he];rfl)
   clear he
   go_wp2
   go_roundw
   case rel=>exact⟨k+1,by omega,by go_num,_,_,_,rfl,by rw[Hst.out,Hc.out];exact HN.out,HB.out⟩
   case measure=>simp[intOf];omega
  ·have g3:s.src.toList.isEmpty=false:=not_empty he
   have g1:(s.src.toList==[])=false:=by cases hq:s.src.toList with
    | nil=>rw[hq] at g3;cases g3
    | cons a r=>rfl
   have g2:(s.src.toList !=[])=true:=by cases hq:s.src.toList with
    | nil=>rw[hq] at g3;cases g3
    | cons a r=>rfl
   have Hc:Hid (consB S s=q):=Lhd (by unfold consB;rw[Hq.out,decide_eq_true he,Bool.true_and])
   clear he
   cases q
   ·go_wp2_with (go_at_call 22;refine(inR_any _ _ _ _ _ _ HSw.out).mono ?_;rintro y w3 ⟨rfl,rfl⟩;rw[Hq.out])
    go_roundw
    case rel=>exact⟨k+1,by omega,by go_num,_,_,_,rfl,by rw[Hst.out,Hc.out];exact HN.out,HB.out⟩
    case measure=>simp[intOf];omega
   ·go_wp2_with (first
     | (go_at_call 22;refine(inR_any _ _ _ _ _ _ HSw.out).mono ?_;rintro y w3 ⟨rfl,rfl⟩;rw[Hq.out];have Hp:=Lhd (putF_any A3 n3 c3 _ s.name w1 HN.out (by omega)))
     | (go_at_call 9;refine Hp.out.mono ?_;rintro y w4 ⟨A4,n4,c4,rfl,hn4,hb4,_⟩))
    go_roundw
    case rel=>exact⟨k+1,by omega,by go_num,_,_,_,rfl,by rw[Hst.out,Hc.out];exact hn4,HB.out.trans (hb4.mono HB.out.size)⟩
    case measure=>simp[intOf];omega
theorem emitR_any (F:Nat→Prop) (A A2:Option Addr) (n c n2 c2:Nat) (S:List ByteArray) (w:World) (h:StpsAt F w A n c M) (hS:NamesAt w A2 n2 c2 S) (hn:n≤1000) :
  Calls Tryz.prog 8 #[.slice A n c,.slice A2 n2 c2] w (GivesN w (emitR M S)):=by
 have hMl:M.length=n:=LsAt.len h
 have Hl:=Lhd hMl
 have HM:=Lhd (fun W (hW:Below w.heap.size w W)=>h.below hW)
 have HS:=Lhd (fun W (hW:Below w.heap.size w W)=>hS.below hW)
 clear h hS
 go_enter Tryz.func8,Tryz.ntmps8
 go_wp2
 go_loopw [5,6] (fun u5 i wr=>∃ k:Nat,k≤n∧i=.int .i64 k∧OutIn w (emitR (M.take k) S) u5 wr) (fun _ i _=>n-(intOf i).toNat)
 case atStart=>exact⟨0,Nat.zero_le _,rfl,none,0,0,rfl,NamesAt.none_ (by unfold maxLen;omega),Below.refl _ _⟩
 case round =>
  generalize wr=w1 at *
  obtain⟨k,hk,rfl,A3,n3,c3,rfl,hN,hB⟩:=hrel
  have HN:=Lhd hN
  have HB:=Lhd hB
  clear hN
  by_cases hlt:k<n
  rotate_left
  ·go_wp2
   go_ret
   have h1:=HN.out
   rw[List.take_of_length_le (by rw[Hl.out];omega)] at h1
   exact⟨_,_,_,rfl,h1,HB.out⟩
  obtain⟨b,o,s,A5,n5,c5,rfl,hbl,hs,okn,oks,hc0,hc1,hc2,hls⟩:=StpsAt.get (HM.out w1 hB) hlt
  have Hs:=Lhd hs
  have hn5:=hls.n_le
  have Hn5:=Lhd hls.len
  have Hst:=Lhd (emitR_take S hs)
  have HX:=Lhd (fun W (hW:Below w1.heap.size w1 W)=>names_ls (hls.below hW))
  clear hs hls hB
  go_wp2
  go_loopw [5,7] (fun u5 i wr=>∃ j:Nat,j≤n5∧i=.int .i64 j∧OutIn w1 (putsB (emitR (M.take k) S) (emF S s (s.ems.take j))) u5 wr) (fun _ i _=>n5-(intOf i).toNat)
  case atStart=>exact⟨0,Nat.zero_le _,rfl,A3,n3,c3,rfl,HN.out,Below.refl _ _⟩
  case round =>
   generalize wr=w2 at *
   obtain⟨j,hj,rfl,A4,n4,c4,rfl,hN4,hb2⟩:=hrel
   have HN4:=Lhd hN4
   have HB2:=Lhd hb2
   have hl4:=hN4.len
   have hl5:=emF_len S (s.ems.take j) Hs.out
   have d0:w2.cell? ⟨b,o+k*3,none⟩=some (.string s.name):=by rw[hb2.cell hbl];exact hc0
   have d2:w2.cell? ⟨b,o+k*3+2,none⟩=some (.slice A5 n5 c5):=by rw[hb2.cell hbl];exact hc2
   have HBw:=Lhd (HB.out.trans (hb2.mono HB.out.size))
   by_cases hjl:j<n5
   ·obtain⟨b5,o5,x,rfl,hb5l,hx,hcx⟩:=(HX.out w2 hb2).at_ hjl
    have Hstj:=Lhd (emF_take S (emitR (M.take k) S) hx)
    have HSw:=Lhd (HS.out w2 HBw.out)
    clear hx hb2 hN4
    obtain⟨q,Hq⟩:∃ q,Hid (decide (x∈S)=q):=⟨_,rfl⟩
    cases q
    ·go_wp2_with (go_at_call 22;refine(inR_any _ _ _ _ _ _ HSw.out).mono ?_;rintro y w3 ⟨rfl,rfl⟩;rw[Hq.out])
     go_roundw
     case rel=>exact⟨j+1,by omega,by go_num,_,_,_,rfl,by rw[Hstj.out,Hq.out];exact HN4.out,HB2.out⟩
     case measure=>simp[intOf];omega
    ·go_wp2_with (first
      | (go_at_call 22;refine(inR_any _ _ _ _ _ _ HSw.out).mono ?_;rintro y w3 ⟨rfl,rfl⟩;rw[Hq.out];have Hp:=Lhd (putF_any A4 n4 c4 _ s.name w2 HN4.out (by omega)))
      | (go_at_call 9;refine Hp.out.mono ?_;rintro y w4 ⟨A6,n6,c6,rfl,hn6,hb6,_⟩))
     go_roundw
     case rel=>exact⟨j+1,by omega,by go_num,_,_,_,rfl,by rw[Hstj.out,Hq.out];exact hn6,HB2.out.trans (hb6.mono HB2.out.size)⟩
     case measure=>simp[intOf];omega
   ·clear hb2 hN4
    go_wp2
    go_roundw
    case rel =>
     have h1:=HN4.out
     have e5:s.ems.take j=s.ems:=List.take_of_length_le (by rw[Hn5.out];omega)
     rw[e5] at h1
     exact⟨k+1,by omega,by go_num,_,_,_,rfl,by rw[Hst.out];exact h1,HBw.out⟩
    case measure=>simp[intOf];omega
variable {M:List Stp}
def ReachR (M:List Stp) (S:List ByteArray) (w:World) (e:Ending) (w':World):Prop :=
 ∃ A n c out,e=.returned (.slice A n c)∧NamesAt w' A n c out∧(∀ x,x∈out ↔ Rch M (consN M S) x)∧Below w.heap.size w w'
theorem rch_at (hn:(M.map Stp.name).Nodup) {S:List ByteArray} {x:ByteArray} {i:Int} (hx:Rch M (consN M S) x) (h:FindIs M x i):∃ (k:Nat) (s:Stp),i=k∧M[k]?=some s∧s.name=x∧stp M x=s:=by
 rcases h with ⟨h,_⟩|⟨k,s,rfl,hs,rfl⟩
 ·exact absurd (hx.names fun y hy=>namesN_sub hy) h
 ·exact⟨k,s,rfl,hs,rfl,stp_of hn (List.mem_of_getElem? hs)⟩
theorem reachR_any (hnd:(M.map Stp.name).Nodup) (F:Nat→Prop) (A A2:Option Addr) (n c n2 c2:Nat) (S:List ByteArray) (w:World) (h:StpsAt F w A n c M) (hS:NamesAt w A2 n2 c2 S) (hn:n≤1000) :
  Calls Tryz.prog 29 #[.slice A n c,.slice A2 n2 c2] w (ReachR M S w):=by
 have hMl:M.length=n:=LsAt.len h
 have Hl:=Lhd hMl
 have HM:=Lhd (fun W (hW:Below w.heap.size w W)=>h.below hW)
 have Hnd:=Lhd hnd
 have HC:=Lhd (consR_any F A A2 n c n2 c2 S w h hS hn)
 clear h hS hnd
 go_enter Tryz.func29,Tryz.ntmps29
 go_wp2_with (go_at_call 13;refine HC.out.mono ?_;rintro y w1 ⟨A3,n3,c3,rfl,hn3,hb3⟩)
 have HN3:=Lhd hn3
 have HB3:=Lhd hb3
 clear hn3 hb3
 go_loopw [5,6] (fun u5 i wr=>∃ (k:Nat) (out:List ByteArray),k≤n+1∧i=.int .i64 k∧RchI M S k out∧OutIn w out u5 wr) (fun _ i _=>n+1-(intOf i).toNat)
 case atStart=>exact⟨0,_,Nat.zero_le _,rfl,RchI.start Hnd.out S,A3,n3,c3,rfl,by rw[← consR_eq Hnd.out];exact HN3.out,HB3.out⟩
 case round =>
  generalize wr=w2 at *
  obtain⟨k,out,hk,rfl,hI,A4,n4,c4,rfl,hN4,hB4⟩:=hrel
  have HI:=Lhd hI
  have HN4:=Lhd hN4
  have HB4:=Lhd hB4
  clear hI hN4 hB4
  by_cases hlt:k≤n
  rotate_left
  ·have hd:decide ((k:Int)≤(n:Int))=false:=by simp;omega
   go_wp2
   go_ret
   have hk1:k=M.length+1:=by rw[Hl.out];omega
   exact⟨_,_,_,out,rfl,HN4.out,(hk1▸HI.out).done,HB4.out⟩
  have hd:decide ((k:Int)≤(n:Int))=true:=by simp;omega
  go_wp2
  go_loopw [5,7] (fun u5 i wr=>∃ (j:Nat) (out':List ByteArray),j≤n∧i=.int .i64 j∧RchJ M S out out' j∧OutIn w out' u5 wr) (fun _ i _=>n+1-(intOf i).toNat)
  case atStart=>exact⟨0,out,Nat.zero_le _,rfl,HI.out.begin,A4,n4,c4,rfl,HN4.out,HB4.out⟩
  case round =>
   generalize wr=w5 at *
   obtain⟨j,out',hj,rfl,hJ,A5,n5,c5,rfl,hN5,hB5⟩:=hrel
   have hl5:=hN5.len
   have hm5:=rch_len hJ.rises hJ.sub
   rw[Hl.out,hl5] at hm5
   by_cases hjl:j<n5
   rotate_left
   ·have hf:=RchJ.fin HI.out hJ (by omega)
    have Hf:=Lhd hf
    have HN5:=Lhd hN5
    have HB5:=Lhd hB5
    clear hf hN5 hB5 hJ
    go_wp2
    go_roundw
    case rel=>exact⟨k+1,out',by omega,by go_num,Hf.out,A5,n5,c5,rfl,HN5.out,HB5.out⟩
    case measure=>simp[intOf];omega
   obtain⟨b,o,x,rfl,hbl,hx,hcx⟩:=hN5.at_ hjl
   have Hrx:=Lhd (hJ.sub x (List.mem_of_getElem? hx))
   have HJ:=Lhd (hJ.next hx)
   have HMw:=Lhd (HM.out w5 hB5)
   have HN5:=Lhd hN5
   have HB5:=Lhd hB5
   clear hx hJ hN5 hB5
   have hHW:=HMw.out
   go_wp2_with (first
    | (go_at_call 19;refine(findR_any F _ _ _ M x _ HMw.out).mono ?_;rintro y w6 ⟨⟨ix,rfl,hix⟩,rfl⟩;obtain⟨k7,s,rfl,hs,hsn,hst⟩:=rch_at Hnd.out Hrx.out hix;have Hst:=Lhd hst;have hk7:k7<n:=(by rw[← Hl.out];exact(List.getElem?_eq_some_iff.1 hs).1);obtain⟨b7,o7,s7,A7,n7,c7,rfl,hbl7,hs7,_,_,d0,d1,d2,hls7⟩:=StpsAt.get HMw.out hk7;have hss:=hs.symm.trans hs7;obtain rfl:s=s7:=(by injection hss);have HC7:=Lhd (consR_any F _ _ _ _ _ _ s.ems _ HMw.out (names_ls hls7) hn);clear hs hs7 hss hls7 hst hix hsn hHW)
    | (go_at_call 13;refine HC7.out.mono ?_;rintro y w8 ⟨A8,n8,c8,rfl,hn8,hb8⟩))
   have hl8:=hn8.len
   have hm8:n8≤n:=by
    rw[← hl8,← Hl.out,consR_eq Hnd.out]
    exact namesN_length _ _
   have HN8:=Lhd hn8
   have HB8:=Lhd hb8
   have HN58:=Lhd (HN5.out.below hb8)
   have HB58:=Lhd (HB5.out.trans (hb8.mono HB5.out.size))
   clear hn8 hb8
   go_loopw [5,9] (fun u5 i wr=>∃ (m:Nat),m≤n8∧i=.int .i64 m∧OutIn w8 (putsB out' ((consR M s.ems).take m)) u5 wr) (fun _ i _=>n8-(intOf i).toNat)
   case atStart=>exact⟨0,Nat.zero_le _,rfl,_,_,_,rfl,HN58.out,Below.refl _ _⟩
   case round =>
    generalize wr=w9 at *
    obtain⟨m,hm,rfl,A9,n9,c9,rfl,hN9,hB9⟩:=hrel
    have hl9:=hN9.len
    have hl10:=putsB_len1 ((consR M s.ems).take m) out'
    have hl11:((consR M s.ems).take m).length≤m:=by simp;omega
    have HN9:=Lhd hN9
    have HB9:=Lhd hB9
    by_cases hml:m<n8
    ·obtain⟨b8,o8,z,rfl,hbl8,hz,hcz⟩:=(HN8.out.below hB9).at_ hml
     have Hz:=Lhd (show putB (putsB out' ((consR M s.ems).take m)) z=putsB out' ((consR M s.ems).take (m+1)) by
      rw[List.take_add_one,hz,Option.toList_some,putsB_append];rfl)
     have Hp:=Lhd (putF_any A9 n9 c9 _ z w9 HN9.out (by omega))
     clear hz hN9 hB9
     go_wp2_with (go_at_call 9;refine Hp.out.mono ?_;rintro y w10 ⟨A10,n10,c10,rfl,hn10,hb10,_⟩)
     go_roundw
     case rel=>exact⟨m+1,by omega,by go_num,_,_,_,rfl,by rw[← Hz.out];exact hn10,HB9.out.trans (hb10.mono HB9.out.size)⟩
     case measure=>simp[intOf];omega
    ·clear hN9 hB9
     go_wp2
     go_roundw
     case rel =>
      have h1:=HN9.out
      have e5:(consR M s.ems).take m=consR M s.ems:=List.take_of_length_le (by omega)
      rw[e5,consR_eq Hnd.out] at h1
      have h2:=HJ.out
      rw[Hst.out] at h2
      exact⟨j+1,_,by omega,by go_num,h2,_,_,_,rfl,h1,HB58.out.trans (HB9.out.mono HB58.out.size)⟩
     case measure=>simp[intOf];omega
variable {M:List Stp}
def NoRnd (M:List Stp) (k:Nat):Prop:=∀ s∈M.take k,¬ Rch M (consN M s.ems) s.name
theorem NoRnd.next {k:Nat} {s:Stp} (h:NoRnd M k) (hs:M[k]?=some s) (hn:¬ Rch M (consN M s.ems) s.name):NoRnd M (k+1):=by
 intro t ht
 rw[List.take_add_one,hs,Option.toList_some] at ht
 rcases List.mem_append.1 ht with ht|ht
 ·exact h t ht
 ·rw[List.mem_singleton.1 ht];exact hn
theorem NoRnd.fin {k:Nat} (h:NoRnd M k) (hk:M.length≤k):RndIs M false:=by
 unfold NoRnd at h
 rw[List.take_of_length_le hk] at h
 exact⟨fun h=>(by cases h),fun hR=>absurd hR.choose_spec.2 (h _ hR.choose_spec.1)⟩
theorem rnd_yes {k:Nat} {s:Stp} (hs:M[k]?=some s) (hn:Rch M (consN M s.ems) s.name):RndIs M true:=⟨fun _=>⟨s,List.mem_of_getElem? hs,hn⟩,fun _=>rfl⟩
def RoundR (M:List Stp) (w:World) (e:Ending) (w':World):Prop:=∃ q,e=.returned (.bool q)∧RndIs M q∧Below w.heap.size w w'
theorem roundR_any (hnd:(M.map Stp.name).Nodup) (F:Nat→Prop) (A:Option Addr) (n c:Nat) (w:World) (h:StpsAt F w A n c M) (hn:n≤1000) :
  Calls Tryz.prog 16 #[.slice A n c] w (RoundR M w):=by
 have hMl:M.length=n:=LsAt.len h
 have Hl:=Lhd hMl
 have HM:=Lhd (fun W (hW:Below w.heap.size w W)=>h.below hW)
 have Hnd:=Lhd hnd
 clear h hnd
 go_enter Tryz.func16,Tryz.ntmps16
 go_wp2
 go_loopw [3] (fun i wr=>∃ k:Nat,k≤n∧i=.int .i64 k∧NoRnd M k∧Below w.heap.size w wr) (fun i _=>n-(intOf i).toNat)
 case atStart=>exact⟨0,Nat.zero_le _,rfl,fun s hs=>by simp at hs,Below.refl _ _⟩
 case round =>
  generalize wr=w1 at *
  obtain⟨k,hk,rfl,hno,hB⟩:=hrel
  have Hno:=Lhd hno
  have HB:=Lhd hB
  clear hno hB
  by_cases hlt:k<n
  rotate_left
  ·go_wp2
   go_ret
   exact⟨_,rfl,Hno.out.fin (by rw[Hl.out];omega),HB.out⟩
  have hd1:Below w1.heap.size w1 w1.drew:=(Below.refl _ w1).drew
  obtain⟨b,o,s,A5,n5,c5,rfl,hbl,hs,okn,oks,hc0,hc1,hc2,hls⟩:=StpsAt.get (HM.out w1 HB.out) hlt
  have Hs:=Lhd hs
  have HSt:=Lhd (fun W (hW:Below w1.heap.size w1 W)=>(⟨(hW.cell hbl).trans hc0,(hW.cell hbl).trans hc2⟩:W.cell? ⟨b,o+k*3,none⟩=some (.string s.name)∧W.cell? ⟨b,o+k*3+2,none⟩=some (.slice A5 n5 c5)))
  have Hre:=Lhd (reachR_any Hnd.out F _ A5 n c n5 c5 s.ems w1.drew (HM.out _ (HB.out.trans (hd1.mono HB.out.size))) (names_ls (hls.below hd1)) hn)
  have sA:=HSt.out _ hd1
  have Hd1:=Lhd hd1
  clear hs hls hd1
  go_wp2
  go_region_held3 (fun W=>W.cell? ⟨b,o+k*3,none⟩=some (.string s.name)∧W.cell? ⟨b,o+k*3+2,none⟩=some (.slice A5 n5 c5)) (first|with_reducible exact sA|with_reducible exact sB) (first
   | (go_at_call 29;refine Hre.out.mono ?_;rintro y w2 ⟨A6,n6,c6,out,rfl,hno6,hrch,hb2⟩;have hb2:Below w1.heap.size w1 w2:=Hd1.out.trans hb2;have sB:=HSt.out _ hb2;have HI:=Lhd (inR_any A6 n6 c6 out s.name w2 hno6);have Hrch:=Lhd (hrch s.name);clear hrch hno6)
   | (go_at_call 22;refine HI.out.mono ?_;rintro y w3 ⟨rfl,rfl⟩;obtain⟨q,Hq⟩:∃ q,Hid (decide (s.name∈out)=q):=⟨_,rfl⟩;rw[Hq.out]))
  all_goals
   cases q
   rotate_left
   ·have Hy:=Lhd (rnd_yes Hs.out (Hrch.out.1 (of_decide_eq_true Hq.out)))
    have HB2:=Lhd (HB.out.trans (hb2.mono HB.out.size))
    go_wp2
    go_ret
    exact⟨_,rfl,Hy.out,HB2.out⟩
   ·have Hy:=Lhd (Hno.out.next Hs.out (fun hr=>(of_decide_eq_false Hq.out) (Hrch.out.2 hr)))
    have HB2:=Lhd (HB.out.trans (hb2.mono HB.out.size))
    go_wp2
    go_roundw
    case rel=>exact⟨k+1,by omega,by go_num,Hy.out,HB2.out⟩
    case measure=>simp[intOf];omega
def NamesGot (L:List ByteArray) (w:World) (e:Ending) (w':World):Prop:=∃ A c,e=.returned (.slice A (List.length L) c)∧NamesAt w' A L.length c L∧Below w.heap.size w w'
theorem consT_any (A1 A A2:Option Addr) (n1 c1 n c n2 c2:Nat) (ss:List ByteArray) (ps:List Pr) (F:Nat→Prop) (S:List ByteArray) (w:World) (h:CatAt w A1 n1 c1 A n c ss ps) (hS:LsAt F w 1 SRow A2 n2 c2 S) :
  Calls Tryz.prog 12 #[catV A1 n1 c1 A n c,.slice A2 n2 c2] w (NamesGot (consN (netC ps) S) w):=by
 have hb1:∀ o,Below w.heap.size w (w.alloc o):=fun o=>(Below.refl _ _).alloc (Nat.le_refl _) o
 have Hof:=Lhd (fun W (hW:Below w.heap.size w W)=>(h.below hW).of)
 have Hb1:=Lhd hb1
 have HS:=Lhd (fun W (hW:Below w.heap.size w W)=>hS.below hW)
 clear hb1 h hS
 unfold catV at *
 go_enter Tryz.func12,Tryz.ntmps12
 go_wp2_with (first
  | (go_at_call 23;refine(Hof.out _ (Hb1.out _)).mono ?_;rintro e w2 ⟨b,rfl,hN,hb2⟩;have hbw2:Below w.heap.size w w2:=(Hb1.out _).trans (hb2.mono (by simp));have Hro:=Lhd (consumers_any _ w2 b (netC ps) F A2 n2 c2 S hN (HS.out w2 hbw2)))
  | (go_at_call 27;refine Hro.out.mono ?_;rintro e w3 ⟨A3,c3,rfl,hown,hb3⟩))
 go_ret
 exact⟨A3,c3,rfl,names_own hown,hbw2.trans (hb3.mono hbw2.size)⟩
theorem emitT_any (A1 A A2:Option Addr) (n1 c1 n c n2 c2:Nat) (ss:List ByteArray) (ps:List Pr) (F:Nat→Prop) (S:List ByteArray) (w:World) (h:CatAt w A1 n1 c1 A n c ss ps) (hS:LsAt F w 1 SRow A2 n2 c2 S) :
  Calls Tryz.prog 14 #[catV A1 n1 c1 A n c,.slice A2 n2 c2] w (NamesGot (emitN (netC ps) S) w):=by
 have hb1:∀ o,Below w.heap.size w (w.alloc o):=fun o=>(Below.refl _ _).alloc (Nat.le_refl _) o
 have Hof:=Lhd (fun W (hW:Below w.heap.size w W)=>(h.below hW).of)
 have Hb1:=Lhd hb1
 have HS:=Lhd (fun W (hW:Below w.heap.size w W)=>hS.below hW)
 clear hb1 h hS
 unfold catV at *
 go_enter Tryz.func14,Tryz.ntmps14
 go_wp2_with (first
  | (go_at_call 23;refine(Hof.out _ (Hb1.out _)).mono ?_;rintro e w2 ⟨b,rfl,hN,hb2⟩;have hbw2:Below w.heap.size w w2:=(Hb1.out _).trans (hb2.mono (by simp));have Hro:=Lhd (emitters_any _ w2 b (netC ps) F A2 n2 c2 S hN (HS.out w2 hbw2)))
  | (go_at_call 24;refine Hro.out.mono ?_;rintro e w3 ⟨A3,c3,rfl,hown,hb3⟩))
 go_ret
 exact⟨A3,c3,rfl,names_own hown,hbw2.trans (hb3.mono hbw2.size)⟩
end Go.Proofs.YtomfpjgcficlgaaGreat
