/- Parts of this proof, one behind the other: RgE, RgF, RgG, RgH, RgI. -/
import Derived.Test.YtdgapmnojmhllaaGreatDoorPf42
import Derived.Test.YtdgapmnojmhllaaGreatDoorPf24
import Derived.Test.YtdgapmnojmhllaaGreatDoorPf27
set_option maxRecDepth 1000000
set_option maxHeartbeats 40000000
namespace Go.Proofs.YtdgapmnojmhllaaGreatDoor
open Go.RowKit Go.Afx
theorem bind_op:∀ k:Nat,k<13→(bindL[k]?).map (fun x=>x.2.1)=some ((k:Int)+6):=by decide +kernel
theorem bind_len:bindL.length=13:=rfl
def bindS:Array Value:=#[.string ⟨#[43]⟩,.string ⟨#[45]⟩,.string ⟨#[42]⟩,.string ⟨#[47]⟩,.string ⟨#[37]⟩,.string ⟨#[61]⟩,.string ⟨#[33,61]⟩,.string ⟨#[60]⟩,.string ⟨#[60,61]⟩,.string ⟨#[62,61]⟩,.string ⟨#[62]⟩,.string ⟨#[97,110,100]⟩,.string ⟨#[111,114]⟩]
def bindI:Array Value:=#[.int .i64 4,.int .i64 4,.int .i64 5,.int .i64 5,.int .i64 5,.int .i64 3,.int .i64 3,.int .i64 3,.int .i64 3,.int .i64 3,.int .i64 3,.int .i64 2,.int .i64 1]
theorem bindS_eq:bindS=(bindL.map fun x=>Value.string x.1).toArray:=rfl
theorem bindI_eq:bindI=(bindL.map fun x=>Value.int .i64 x.2.2).toArray:=rfl
theorem bindS_at {k:Nat} {x:ByteArray×Int×Int} (h:bindL[k]?=some x):bindS[k]?=some (.string x.1):=by
 rw[bindS_eq,List.getElem?_toArray,List.getElem?_map,h]
 rfl
theorem bindI_at {k:Nat} {x:ByteArray×Int×Int} (h:bindL[k]?=some x):bindI[k]?=some (.int .i64 x.2.2):=by
 rw[bindI_eq,List.getElem?_toArray,List.getElem?_map,h]
 rfl
theorem dBind_any (g gw:Nat) (W:Wds) (s:PSt) (w:World) (h:DAt g gw W s w) :
  Calls Tryz.prog 68 #[.pointer (some ⟨g,0,none⟩)] w fun e w'=>e=.returned (.tuple #[.int .i64 (bindP W s).1,.int .i64 (bindP W s).2])∧Below w.heap.size w w':=by
 obtain⟨w1,Hw1⟩:∃ w1,Hid (w1=(w.alloc (.cells bindS 9)).alloc (.cells bindI 3)):=⟨_,rfl⟩
 have hb1:Below w.heap.size w w1:=by rw[Hw1.out];exact((Below.refl _ _).alloc (Nat.le_refl _) _).alloc (by simp) _
 have hks:IsBlk w1 w.heap.size 9 bindS:=by rw[Hw1.out];exact(IsBlk.laid _ _ _).alloc _
 have hki:IsBlk w1 (w.heap.size+1) 3 bindI:=by rw[Hw1.out];exact blk_new (by simp)
 have Hi:=Lhd (fun t W' (hW:Below w1.heap.size w1 W')=>dIs_any g gw W s t W' (h.below (hb1.trans (hW.mono hb1.size))))
 have Hb1:=Lhd hb1
 have Hk:=Lhd (And.intro hks hki)
 clear h hb1 hks hki
 unfold bindS bindI at Hw1
 go_enter Tryz.func68,Tryz.ntmps68
 go_upto_region 3 with (fail)
 rw[← Hw1.out]
 go_wp2
 go_loopw [6] (fun i wr=>∃ k:Nat,k≤13∧i=.int .i64 k∧Hid (∀ y∈bindL.take k,(mayP W y.1 s).1=false)∧Below w1.heap.size w1 wr) (fun i _=>13-(intOf i).toNat)
 case atStart=>exact⟨0,by omega,rfl,Lhd (by simp),Below.refl _ _⟩
 case round =>
  obtain⟨k,hk,rfl,HN,hb⟩:=hrel
  rcases Nat.lt_or_ge k 13 with hlt|hge
  ·obtain⟨x,hx⟩:∃ x,bindL[k]?=some x:=⟨_,List.getElem?_eq_getElem (by rw[bind_len];exact hlt)⟩
   have hop:=bind_op k hlt
   rw[hx] at hop
   have hop:x.2.1=(k:Int)+6:=Option.some.inj hop
   have kS:=Hk.out.1.as_was (hb.block _ Hk.out.1.lt)
   have kI:=Hk.out.2.as_was (hb.block _ Hk.out.2.lt)
   have c1:wr.cell? ⟨w.heap.size,k,none⟩=some (.string x.1):=by rw[kS.cell k];exact bindS_at hx
   have z1:=kS.lt
   have hi:=Hi.out x.1 wr hb
   rw[may_split] at hi
   have i0:(0:Int)≤(k:Int):=by omega
   have i1:(k:Int)<13:=by omega
   have Hx:=Lhd hx
   have Hop:=Lhd hop
   have HI:=Lhd kI
   have Hb:=Lhd hb
   cases hv:(mayP W x.1 s).1 with
   | true =>
    rw[hv] at hi
    have HF:=Lhd (bind_at hx HN.out hv)
    have Hi2:=Lhd hi
    clear hi hv hop hx kS kI hb
    go_wp2_with (fail)
    refine Hi2.out.mono ?_
    rintro e w3 ⟨rfl,hb3⟩
    have k3:=HI.out.as_was (hb3.block _ HI.out.lt)
    have c2:w3.cell? ⟨w.heap.size+1,k,none⟩=some (.int .i64 x.2.2):=by rw[k3.cell k];exact bindI_at Hx.out
    have z2:=k3.lt
    have w5:IntKind.i64.wrap ((k:Int)+6)=(k:Int)+6:=i64_of ⟨by omega,by omega⟩
    have HB:=Lhd (Hb1.out.trans ((Hb.out.trans (hb3.mono Hb.out.size)).mono Hb1.out.size))
    clear hb3 k3
    go_wp2
    go_quiet (fail)
    go_wp2
    go_ret2
    refine⟨?_,below_drewN HB.out _⟩
    rw[HF.out,Hop.out]
    rfl
   | false =>
    rw[hv] at hi
    have HN2:=Lhd (show ∀ y∈bindL.take (k+1),(mayP W y.1 s).1=false by
     intro y hy
     obtain⟨g1,g2⟩:=List.getElem?_eq_some_iff.1 hx
     rw[List.take_succ_eq_append_getElem g1,g2] at hy
     rcases List.mem_append.1 hy with hy|hy
     ·exact HN.out y hy
     ·obtain rfl:=List.mem_singleton.1 hy;exact hv)
    have Hi2:=Lhd hi
    clear hi hv hop hx kS kI hb
    go_wp2_with (fail)
    refine Hi2.out.mono ?_
    rintro e w3 ⟨rfl,hb3⟩
    have HB:=Lhd (Hb.out.trans (hb3.mono Hb.out.size))
    clear hb3
    go_wp2
    go_roundw
    case rel=>exact⟨k+1,by omega,by go_num,HN2,HB.out⟩
    case measure=>simp[intOf];omega
  ·obtain rfl:k=13:=by omega
   have HF:=Lhd (bind_not (show ∀ y∈bindL,(mayP W y.1 s).1=false from fun y hy=>HN.out y (by rw[show bindL.take 13=bindL from rfl];exact hy)))
   have Hb:=Lhd hb
   clear hb
   go_wp2
   go_ret2
   refine⟨?_,Hb1.out.trans (Hb.out.mono Hb1.out.size)⟩
   rw[HF.out]
   rfl
def GivesD (g gw:Nat) (W:Wds) (s':PSt) (x:Ex) (w:World) (e:Ending) (w':World):Prop:=∃ row D,e=.returned (.agg row.toArray)∧ExAt (Fr w) D w' row x∧DAt g gw W s' w'∧But (fun k=>k=g) w w'
def ExprD (g gw:Nat) (W:Wds) (L:Int) (one:PSt→Ex×PSt) (s:PSt):Prop:=∀ w,DAt g gw W s w→Calls Tryz.prog 27 #[.pointer (some ⟨g,0,none⟩),.int .i64 L] w (GivesD g gw W (one s).2 (one s).1 w)
section
variable {g gw gx:Nat} {W:Wds} {s s':PSt} {x:Ex} {w w3 w4:World}
theorem DAt.elsewhere (h:DAt g gw W s w3) {gx:Nat} (hb:But (fun k=>k=gx) w3 w4) (h1:g≠gx) (h2:gw≠gx):DAt g gw W s w4:=by
 obtain⟨⟨A,n,c,hk,hl⟩,a1,a2,a3,a4⟩:=h
 exact⟨⟨A,n,c,hk.as_was (hb.block _ hk.lt h1),hl.kept (Kept.of_but hb fun k hk e=>h2 (hk▸e))⟩,a1,a2,a3,Nat.lt_of_lt_of_le a4 hb.size⟩
theorem one_blk {T:TypeId} {cs:Array Value} (h:IsBlk w3 gx T cs) (hb:But (fun k=>k=g) w3 w4) (hg:g≠gx):IsBlk w4 gx T cs:=h.as_was (hb.block _ h.lt fun e=>hg e.symm)
theorem gives_ofD {D:Nat} {A:Option Addr} {m c:Nat} {T:TypeId} {u0 u1 u2 u3 u4 u5:Value}
  (hx:ExAt (Fr w3) D w4 [.int .i64 x.op,.int .i64 x.n,.string x.s,.string x.name,.string x.src,.slice A m c] x) (hP:DAt g gw W s' w4) (hB:But (fun k=>k=g) w w4) (hk:IsBlk w4 gx T #[u0,u1,u2,u3,u4,u5]) (hg1:w.heap.size≤gx) (hg2:gx<w3.heap.size) (hz:g<w.heap.size∧gw<w.heap.size) :
  IsBlk (lay6 w4 gx (.int .i64 x.op) (.int .i64 x.n) (.string x.s) (.string x.name) (.string x.src) (.slice A m c)) gx T #[.int .i64 x.op,.int .i64 x.n,.string x.s,.string x.name,.string x.src,.slice A m c] ∧
  GivesD g gw W s' x w (.returned (.agg #[.int .i64 x.op,.int .i64 x.n,.string x.s,.string x.name,.string x.src,.slice A m c])) (lay6 w4 gx (.int .i64 x.op) (.int .i64 x.n) (.string x.s) (.string x.name) (.string x.src) (.slice A m c)):=by
 have hb7:=lay6_but w4 gx (.int .i64 x.op) (.int .i64 x.n) (.string x.s) (.string x.name) (.string x.src) (.slice A m c)
 refine⟨lay6_blk _ _ _ _ _ _ hk,_,D,rfl,?_,hP.elsewhere hb7 (by omega) (by omega),hB.trans hb7 (fun i hi=>.inr (by omega))⟩
 exact ExAt.conv (fun k (hk:w3.heap.size≤k)=>by show w.heap.size≤k;omega) (Kept.of_but hb7 fun k (hk:w3.heap.size≤k) e=>by omega) D (Nat.le_refl _) hx
end
theorem dWhere_any (g gw:Nat) (W:Wds) (E:PSt→Ex×PSt) (s:PSt) (w:World) (h:DAt g gw W s w) (hE:ExprD g gw W 1 E (mayP W (str [119,104,101,114,101]) s).2) :
  Calls Tryz.prog 113 #[.pointer (some ⟨g,0,none⟩)] w (GivesD g gw W (whereP W E s).2 (whereP W E s).1 w):=by
 have hz:=And.intro h.lt h.wl
 have hb1:=(Below.refl w.heap.size w).alloc (Nat.le_refl _) (.cells zero6 32)
 have hk1:=IsBlk.laid w 32 zero6
 have h1:=h.below hb1
 have hm:=dMay_any g gw W s (str [119,104,101,114,101]) _ h1
 have hno:=mayP_no (W:=W) (s:=s) (t:=str [119,104,101,114,101])
 have hE2:=hE
 unfold ExprD at hE2
 unfold whereP
 generalize (mayP W (str [119,104,101,114,101]) s)=r at *
 obtain⟨v,s2⟩:=r
 simp only[str] at hm
 have Hm:=Lhd hm
 have HE:=Lhd hE2
 have Hb1:=Lhd hb1
 have Hk1:=Lhd hk1
 have Hz:=Lhd hz
 clear hm hE2 hb1 hk1 hz h h1 hE
 cases v with
 | true =>
  clear hno
  show Calls _ _ _ _ (GivesD g gw W (E s2).2 (E s2).1 w)
  simp only at HE
  generalize E s2=fin at *
  go_enter Tryz.func113,Tryz.ntmps113
  go_wp2_with (fail)
  refine Hm.out.mono ?_
  rintro e w3 ⟨rfl,hP,hB⟩
  have H3:=Lhd (And.intro hP hB)
  clear hP hB
  go_wp2_with (fail)
  refine(HE.out _ H3.out.1).mono ?_
  rintro e w4 ⟨row,D,rfl,hx,hP,hB⟩
  obtain⟨A2,m2,c2,rfl⟩:=ex_row6 hx
  have hB4:=H3.out.2.trans' hB
  have hk4:=one_blk Hk1.out hB4 (by have:=Hz.out;omega)
  obtain⟨x0,x1,x2,x3,x4,x5,xl⟩:=cells6 hk4
  have f4:=hk4.frozen
  have hs:=H3.out.2.size
  simp only[World.alloc,Array.size_push] at hs
  have H:=Lhd (gives_ofD hx hP ((But.of_below Hb1.out).trans' hB4) hk4 (Nat.le_refl _) (by omega) Hz.out)
  clear hx hP hB hk4 hB4 hs
  go_wp2
  rw[lay6_eq]
  exact bodyPost_ret (ret_ex Tryz.results113 rfl H.out.1 rfl) rfl H.out.2
 | false =>
  obtain rfl:=hno rfl
  show Calls _ _ _ _ (GivesD g gw W s2 (.mk 3 1 nil0 nil0 nil0 []) w)
  go_enter Tryz.func113,Tryz.ntmps113
  go_wp2_with (fail)
  refine Hm.out.mono ?_
  rintro e w3 ⟨rfl,hP,hB⟩
  have hk4:=one_blk Hk1.out hB (by have:=Hz.out;omega)
  obtain⟨x0,x1,x2,x3,x4,x5,xl⟩:=cells6 hk4
  have f4:=hk4.frozen
  have hs:=hB.size
  simp only[World.alloc,Array.size_push] at hs
  have H:=Lhd (gives_ofD (x:=.mk 3 1 nil0 nil0 nil0 []) (w3:=w3) (true_at (Fr w3) w3) hP ((But.of_below Hb1.out).trans' hB) hk4 (Nat.le_refl _) (by omega) Hz.out)
  clear hP hB hk4 hs
  go_wp2
  rw[lay6_eq]
  exact bodyPost_ret (ret_ex Tryz.results113 rfl H.out.1 rfl) rfl H.out.2
open Go.RowKit Go.Afx
def ToldD (g gw:Nat) (W:Wds) (s':PSt) (v:Value) (w:World) (e:Ending) (w':World):Prop:=e=.returned v∧DAt g gw W s' w'∧But (fun k=>k=g) w w'
section
variable (g gw:Nat) (W:Wds) (s:PSt)
theorem mayT (t:ByteArray) (b:Bool) (s':PSt) (h:mayP W t s=(b,s')) (w:World) (hW:DAt g gw W s w):Calls Tryz.prog 64 #[.pointer (some ⟨g,0,none⟩),.string t] w (ToldD g gw W s' (.bool b) w):=by
 have:=dMay_any g gw W s t w hW
 rw[h] at this
 exact this
theorem isT (t:ByteArray) (b:Bool) (h:(mayP W t s).1=b) (w:World) (hW:DAt g gw W s w):Calls Tryz.prog 108 #[.pointer (some ⟨g,0,none⟩),.string t] w (ToldD g gw W s (.bool b) w):=by
 refine(dIs_any g gw W s t w hW).mono ?_
 rintro e w' ⟨rfl,hb⟩
 rw[may_split,h]
 exact⟨rfl,hW.below hb,But.of_below hb⟩
theorem kindT (k:Int) (b:Bool) (hk:k≠4) (h:(!s.bad&&((W.look s.at_).kind==k))=b) (w:World) (hW:DAt g gw W s w):Calls Tryz.prog 109 #[.pointer (some ⟨g,0,none⟩),.int .i64 k] w (ToldD g gw W s (.bool b) w):=by
 refine(dKind_any g gw W s k w hW hk).mono ?_
 rintro e w' ⟨rfl,hb⟩
 rw[h]
 exact⟨rfl,hW.below hb,But.of_below hb⟩
theorem takeT (t:ByteArray) (w:World) (hW:DAt g gw W s w):Calls Tryz.prog 111 #[.pointer (some ⟨g,0,none⟩),.string t] w (ToldD g gw W (mustP W [t] s) (.tuple #[]) w):=dTake_any g gw W s t w hW
theorem enterT (w:World) (hW:DAt g gw W s w):Calls Tryz.prog 65 #[.pointer (some ⟨g,0,none⟩)] w (ToldD g gw W (enterP s) (.tuple #[]) w):=dEnter_any g gw W s w hW
theorem nameT (w:World) (hW:DAt g gw W s w):Calls Tryz.prog 112 #[.pointer (some ⟨g,0,none⟩)] w (ToldD g gw W (nameP W s).2 (.string (nameP W s).1) w):=dName_any g gw W s w hW
theorem numberT (w:World) (hW:DAt g gw W s w):Calls Tryz.prog 110 #[.pointer (some ⟨g,0,none⟩)] w (ToldD g gw W (numP W s).2 (.int .i64 (numP W s).1) w):=dNumber_any g gw W s w hW
theorem bindT (w:World) (hW:DAt g gw W s w):Calls Tryz.prog 68 #[.pointer (some ⟨g,0,none⟩)] w (ToldD g gw W s (.tuple #[.int .i64 (bindP W s).1,.int .i64 (bindP W s).2]) w):=by
 refine(dBind_any g gw W s w hW).mono ?_
 rintro e w' ⟨rfl,hb⟩
 exact⟨rfl,hW.below hb,But.of_below hb⟩
end
abbrev row6 (x:Ex) (A:Option Addr) (m c:Nat):List Value:=[.int .i64 x.op,.int .i64 x.n,.string x.s,.string x.name,.string x.src,.slice A m c]
section
variable {g gw gx:Nat} {W:Wds} {s':PSt} {x y:Ex} {w w1 w5:World} {D D2:Nat} {A B:Option Addr} {m c mb cb:Nat} {T:TypeId} {u0 u1 u2 u3 u4 u5:Value} {op:Int}
theorem set_size (w:World) (p:Addr) (v:Value):(w.setCell p v).heap.size=w.heap.size:=by unfold World.setCell;simp
theorem lay6_alloc {w:World} {o:Obj} {g:Nat} (h:g<w.heap.size) (v0 v1 v2 v3 v4 v5:Value):lay6 (w.alloc o) g v0 v1 v2 v3 v4 v5=(lay6 w g v0 v1 v2 v3 v4 v5).alloc o:=by
 unfold lay6
 rw[World.setCell_alloc_past o g 0 v0 h,World.setCell_alloc_past o g 1 v1 (by rw[set_size];exact h),World.setCell_alloc_past o g 2 v2 (by rw[set_size,set_size];exact h),World.setCell_alloc_past o g 3 v3 (by rw[set_size,set_size,set_size];exact h),World.setCell_alloc_past o g 4 v4 (by rw[set_size,set_size,set_size,set_size];exact h),World.setCell_alloc_past o g 5 v5 (by rw[set_size,set_size,set_size,set_size,set_size];exact h)]
theorem one_endD (hx:ExAt (Fr w1) D w5 (row6 x A m c) x) (hP:DAt g gw W s' w5) (hB:But (fun k=>k=g) w w5) (hk:IsBlk w5 gx T #[u0,u1,u2,u3,u4,u5]) (hg1:w.heap.size≤gx) (hg2:gx<w1.heap.size) (hz:g<w.heap.size∧gw<w.heap.size) (h15:w1.heap.size≤w5.heap.size) (h0:0≤op) (h1:op≤100) :
  IsBlk (lay6 (w5.alloc (.cells #[.int .i64 x.op,.int .i64 x.n,.string x.s,.string x.name,.string x.src,.slice A m c] 32)) gx (.int .i64 op) (.int .i64 0) (.string ⟨#[]⟩) (.string ⟨#[]⟩) (.string ⟨#[]⟩) (.slice (some ⟨w5.heap.size,0,none⟩) 1 1)) gx T #[.int .i64 op,.int .i64 0,.string ⟨#[]⟩,.string ⟨#[]⟩,.string ⟨#[]⟩,.slice (some ⟨w5.heap.size,0,none⟩) 1 1] ∧
  GivesD g gw W s' (oneP op x) w (.returned (.agg #[.int .i64 op,.int .i64 0,.string ⟨#[]⟩,.string ⟨#[]⟩,.string ⟨#[]⟩,.slice (some ⟨w5.heap.size,0,none⟩) 1 1])) (lay6 (w5.alloc (.cells #[.int .i64 x.op,.int .i64 x.n,.string x.s,.string x.name,.string x.src,.slice A m c] 32)) gx (.int .i64 op) (.int .i64 0) (.string ⟨#[]⟩) (.string ⟨#[]⟩) (.string ⟨#[]⟩) (.slice (some ⟨w5.heap.size,0,none⟩) 1 1)):=by
 have hlit:=exs_lit (F:=Fr w1) (d:=D) (n:=1) (g:=w5.heap.size) (w:=w5) 32 [row6 x A m c] [x] rfl h15 rfl (by omega) rfl (fun k r y h1 h2=>by
  rcases k with _|k
  ·simp at h1 h2
   subst h1 h2
   exact hx
  ·simp at h1)
 have hop:=ex_opn h0 h1 hlit
 simp only[row6,List.flatten_cons,List.flatten_nil,List.append_nil] at hop
 have hb:=(Below.refl w5.heap.size w5).alloc (Nat.le_refl _) (.cells #[.int .i64 x.op,.int .i64 x.n,.string x.s,.string x.name,.string x.src,.slice A m c] 32)
 exact gives_ofD (x:=oneP op x) (w3:=w1) hop (hP.below hb) (hB.alloc _) (hk.alloc _) hg1 hg2 hz
theorem two_endD (hx:ExAt (Fr w1) D w5 (row6 x A m c) x) (hy:ExAt (Fr w1) D w5 (row6 y B mb cb) y) (hk:IsBlk w5 gx T #[u0,u1,u2,u3,u4,u5]) (hg2:gx<w1.heap.size) (h15:w1.heap.size≤w5.heap.size) (h0:0≤op) (h1:op≤100) :
  IsBlk (lay6 (w5.alloc (.cells #[.int .i64 x.op,.int .i64 x.n,.string x.s,.string x.name,.string x.src,.slice A m c,.int .i64 y.op,.int .i64 y.n,.string y.s,.string y.name,.string y.src,.slice B mb cb] 32)) gx (.int .i64 op) (.int .i64 0) (.string ⟨#[]⟩) (.string ⟨#[]⟩) (.string ⟨#[]⟩) (.slice (some ⟨w5.heap.size,0,none⟩) 2 2)) gx T #[.int .i64 op,.int .i64 0,.string ⟨#[]⟩,.string ⟨#[]⟩,.string ⟨#[]⟩,.slice (some ⟨w5.heap.size,0,none⟩) 2 2] ∧
  ExAt (Fr w1) (D+1) (lay6 (w5.alloc (.cells #[.int .i64 x.op,.int .i64 x.n,.string x.s,.string x.name,.string x.src,.slice A m c,.int .i64 y.op,.int .i64 y.n,.string y.s,.string y.name,.string y.src,.slice B mb cb] 32)) gx (.int .i64 op) (.int .i64 0) (.string ⟨#[]⟩) (.string ⟨#[]⟩) (.string ⟨#[]⟩) (.slice (some ⟨w5.heap.size,0,none⟩) 2 2)) (row6 (twoP op x y) (some ⟨w5.heap.size,0,none⟩) 2 2) (twoP op x y) ∧
  But (fun k=>k=gx) w5 (lay6 (w5.alloc (.cells #[.int .i64 x.op,.int .i64 x.n,.string x.s,.string x.name,.string x.src,.slice A m c,.int .i64 y.op,.int .i64 y.n,.string y.s,.string y.name,.string y.src,.slice B mb cb] 32)) gx (.int .i64 op) (.int .i64 0) (.string ⟨#[]⟩) (.string ⟨#[]⟩) (.string ⟨#[]⟩) (.slice (some ⟨w5.heap.size,0,none⟩) 2 2)):=by
 have hlit:=exs_lit (F:=Fr w1) (d:=D) (n:=2) (g:=w5.heap.size) (w:=w5) 32 [row6 x A m c,row6 y B mb cb] [x,y] rfl h15 rfl (by omega) rfl (fun k r z h1 h2=>by
  rcases k with _|_|k
  ·simp at h1 h2
   subst h1 h2
   exact hx
  ·simp at h1 h2
   subst h1 h2
   exact hy
  ·simp at h1)
 have hop:=ex_opn h0 h1 hlit
 simp only[row6,List.flatten_cons,List.flatten_nil,List.append_nil,List.cons_append,List.nil_append] at hop
 have hl:=lay6_but (w5.alloc (.cells #[.int .i64 x.op,.int .i64 x.n,.string x.s,.string x.name,.string x.src,.slice A m c,.int .i64 y.op,.int .i64 y.n,.string y.s,.string y.name,.string y.src,.slice B mb cb] 32)) gx (.int .i64 op) (.int .i64 0) (.string ⟨#[]⟩) (.string ⟨#[]⟩) (.string ⟨#[]⟩) (.slice (some ⟨w5.heap.size,0,none⟩) 2 2)
 refine⟨lay6_blk _ _ _ _ _ _ (hk.alloc _),?_,((But.refl (fun k=>k=gx) w5).alloc _).trans' hl⟩
 exact ExAt.conv (fun _ h=>h) (Kept.of_but hl fun k (hk:w1.heap.size≤k) e=>by omega) _ (Nat.le_refl _) hop
end
open Go.RowKit Go.Afx
def NotD (g gw:Nat) (W:Wds) (one:PSt→Ex×PSt) (s:PSt):Prop:=∀ w,DAt g gw W s w→Calls Tryz.prog 66 #[.pointer (some ⟨g,0,none⟩)] w (GivesD g gw W (one s).2 (one s).1 w)
def SingleD (g gw:Nat) (W:Wds) (one:PSt→Ex×PSt) (s:PSt):Prop:=∀ w,DAt g gw W s w→Calls Tryz.prog 67 #[.pointer (some ⟨g,0,none⟩)] w (GivesD g gw W (one s).2 (one s).1 w)
theorem deep_leave {g gw:Nat} {W:Wds} {s:PSt} {w:World} (h:DAt g gw W s w):DAt g gw W (leaveP s) (w.setCell ⟨g,2,none⟩ (.int .i64 (wrap64 (s.deep-1)))):=h.deep_ (wrap64 (s.deep-1))
theorem dNot_any (g gw:Nat) (W:Wds) (E:PSt→Ex×PSt) (s:PSt) (w:World) (h:DAt g gw W s w)
  (hn:mayP W (str [110,111,116]) s=(true,s.on)→NotD g gw W (notP W E W.fuel) (enterP s.on))
  (he:mayP W (str [110,111,116]) s=(false,s)→ExprD g gw W 3 (cmpP W E) s) :
  Calls Tryz.prog 66 #[.pointer (some ⟨g,0,none⟩)] w (GivesD g gw W (notP W E W.fuel s).2 (notP W E W.fuel s).1 w):=by
 have hz:=And.intro h.lt h.wl
 have hb1:=(Below.refl w.heap.size w).alloc (Nat.le_refl _) (.cells zero6 32)
 have hk1:=IsBlk.laid w 32 zero6
 have h1:=h.below hb1
 have hsz:(w.alloc (.cells zero6 32)).heap.size=w.heap.size+1:=by simp
 obtain⟨w1,Hw1⟩:∃ w1,Hid (w1=w.alloc (.cells zero6 32)):=⟨_,rfl⟩
 rw[← Hw1.out] at hb1 hk1 h1 hsz
 have H1:=Lhd (And.intro h1 (But.of_below (S:=fun k=>k=g) hb1))
 have Hk1:=Lhd hk1
 have Hz:=Lhd hz
 rw[not_eq]
 rcases may_cases W (str [110,111,116]) s with hc|⟨hc,hbad,hat⟩
 ·have HM:=Lhd (mayT g gw W s (str [110,111,116]) false s hc w1 h1)
  rw[hc,if_neg Bool.false_ne_true]
  have HE:=Lhd (he hc)
  unfold ExprD at HE
  simp only[str] at HM
  clear hb1 hk1 hz h h1 hc he hn
  generalize cmpP W E=one at *
  go_enter Tryz.func66,Tryz.ntmps66
  go_upto_region 1 with (fail)
  rw[← Hw1.out]
  go_wp2_with (fail)
  refine HM.out.mono ?_
  rintro e w2 ⟨rfl,hP,hB⟩
  have H2:=Lhd (And.intro hP (H1.out.2.trans' hB))
  clear hP
  go_wp2_with (fail)
  refine(HE.out _ H2.out.1).mono ?_
  rintro e w3 ⟨row,D,rfl,hx,hP,hB3⟩
  obtain⟨A2,m2,c2,rfl⟩:=ex_row6 hx
  have hk3:=one_blk Hk1.out (hB.trans' hB3) (by have:=Hz.out;omega)
  obtain⟨x0,x1,x2,x3,x4,x5,xl⟩:=cells6 hk3
  have f3:=hk3.frozen
  have hs:=hB.size
  have H:=Lhd (gives_ofD hx hP (H2.out.2.trans' hB3) hk3 (Nat.le_refl _) (by omega) Hz.out)
  clear hx hP hB hB3 hk3 hs
  go_wp2
  rw[lay6_eq]
  exact bodyPost_ret (ret_ex Tryz.results66 rfl H.out.1 rfl) rfl H.out.2
 ·have HM:=Lhd (mayT g gw W s (str [110,111,116]) true s.on hc w1 h1)
  rw[hc,if_pos rfl]
  have HN:=Lhd (hn hc)
  have Hent:=Lhd (enterT g gw W s.on)
  have hnx:notX W E s=(oneP 19 (notP W E W.fuel (enterP s.on)).1,leaveP (notP W E W.fuel (enterP s.on)).2):=by unfold notX;rw[hc]
  rw[hnx]
  simp only[str] at HM
  unfold NotD at HN
  clear hb1 hk1 hz h h1 hc he hn hnx hbad hat
  generalize notP W E W.fuel (enterP s.on)=fin at *
  go_enter Tryz.func66,Tryz.ntmps66
  go_upto_region 1 with (fail)
  rw[← Hw1.out]
  go_wp2_with (fail)
  refine HM.out.mono ?_
  rintro e w2 ⟨rfl,hP,hB⟩
  have H2:=Lhd (And.intro hP (And.intro (H1.out.2.trans' hB) hB))
  clear hP hB
  go_wp2_with (fail)
  refine(Hent.out _ H2.out.1).mono ?_
  rintro e w3 ⟨rfl,hP,hB⟩
  have H3:=Lhd (And.intro hP (And.intro (H2.out.2.1.trans' hB) (H2.out.2.2.trans' hB)))
  clear hP hB
  go_wp2_with (fail)
  refine(HN.out _ H3.out.1).mono ?_
  rintro e w4 ⟨row,D,rfl,hx,hP,hB⟩
  obtain⟨A2,m2,c2,rfl⟩:=ex_row6 hx
  have hal:=(Below.refl w4.heap.size w4).alloc (Nat.le_refl _) (.cells #[.int .i64 fin.1.op,.int .i64 fin.1.n,.string fin.1.s,.string fin.1.name,.string fin.1.src,.slice A2 m2 c2] 32)
  have hkx:IsBlk (w4.alloc (.cells #[.int .i64 fin.1.op,.int .i64 fin.1.n,.string fin.1.s,.string fin.1.name,.string fin.1.src,.slice A2 m2 c2] 32)) w4.heap.size 32 #[.int .i64 fin.1.op,.int .i64 fin.1.n,.string fin.1.s,.string fin.1.name,.string fin.1.src,.slice A2 m2 c2]:=IsBlk.laid _ _ _
  obtain⟨w5,Hw5⟩:∃ w5,Hid (w5=w4.alloc (.cells #[.int .i64 fin.1.op,.int .i64 fin.1.n,.string fin.1.s,.string fin.1.name,.string fin.1.src,.slice A2 m2 c2] 32)):=⟨_,rfl⟩
  rw[← Hw5.out] at hal hkx
  have hP5:=hP.below hal
  have hk5:=(one_blk Hk1.out (H3.out.2.2.trans' hB) (by have:=Hz.out;omega)).as_was (hal.block _ (Nat.lt_of_lt_of_le Hk1.out.lt (H3.out.2.2.trans' hB).size))
  have hs3:=H3.out.2.2.size
  have hs4:=hB.size
  have hs5:=hal.size
  have hx5:ExAt (Fr w1) D w5 (row6 fin.1 A2 m2 c2) fin.1:=ExAt.conv (fun k (hk:w3.heap.size≤k)=>by show w1.heap.size≤k;omega) (Kept.of_below hal) D (Nat.le_refl _) hx
  have hB5:=(H3.out.2.1.trans' hB).trans' (But.of_below hal)
  have hne:g≠w4.heap.size:=by have:=Hz.out;omega
  have hone:But (fun k=>k=g) w5 (w5.setCell ⟨g,2,none⟩ (.int .i64 (wrap64 (fin.2.deep-1)))):=but_cell (But.refl _ _) 2 _
  have hP6:=deep_leave hP5
  have hk6:=one_blk hk5 hone (by have:=Hz.out;omega)
  have hkx6:=one_blk hkx hone hne
  have hx6:ExAt (Fr w1) D (w5.setCell ⟨g,2,none⟩ (.int .i64 (wrap64 (fin.2.deep-1)))) (row6 fin.1 A2 m2 c2) fin.1:=ExAt.conv (fun _ h=>h) (Kept.of_but hone fun k (hk:w1.heap.size≤k) (e:k=g)=>by have:=Hz.out;omega) D (Nat.le_refl _) hx5
  obtain⟨B,n,c,c0,c1,c2',c3,c4,cg,cf⟩:=hP5.cells
  obtain⟨w6,Hw6⟩:∃ w6,Hid (w6=w5.setCell ⟨g,2,none⟩ (.int .i64 (wrap64 (fin.2.deep-1)))):=⟨_,rfl⟩
  rw[← Hw6.out] at hP6 hk6 hkx6 hx6 hone
  have hs6:=hone.size
  have H:=Lhd (one_endD (op:=19) (w:=w) hx6 hP6 (hB5.trans' hone) hk6 (Nat.le_refl _) (by omega) Hz.out (by omega) (by decide) (by decide))
  have Hk6:=Lhd hk6
  have Hkx6:=Lhd hkx6
  clear hx hP hB hal hkx hP5 hk5 hx5 hB5 hone hP6 hk6 hkx6 hx6 c0 c1 c3 c4 hs3 hs4 hs5 hs6 hne
  go_upto_region 4 with (fail)
  rw[← Hw5.out]
  go_upto_region 5 with (fail)
  rw[← Hw6.out]
  clear c2' cg cf
  obtain⟨x0,x1,x2,x3,x4,x5,xl⟩:=cells6 Hk6.out
  obtain⟨y0,y1,y2,y3,y4,y5,yl⟩:=cells6 Hkx6.out
  have f6:=Hk6.out.frozen
  go_wp2
  rw[lay6_eq,← lay6_alloc xl]
  exact bodyPost_ret (ret_ex Tryz.results66 rfl H.out.1 rfl) rfl H.out.2
section
variable (W:Wds) (E:PSt→Ex×PSt)
def lvlX (L:Nat) (s:PSt):Ex×PSt :=
 if L=1 then chain1 W lvOr (bothP W E) s else if L=2 then bothP W E s else if L=3 then cmpP W E s else if L=4 then sumP W E s else if L=5 then productP W E s else signedP W E W.fuel s
def clD (L most:Nat) (x:Ex×PSt):Ex×PSt:=if L≤5 then climb W E L most x else x
def rightX (p:Nat) (s:PSt):Ex×PSt:=if p=2 then notP W E W.fuel s else if p=1 then lvlX W E 2 s else lvlX W E (p+1) s
theorem climb_or (s:PSt):chain1 W lvOr (bothP W E) s=if (mayP W (str [110,111,116]) s).1 then climb W E 1 2 (notX W E s) else climb W E 1 9 (signedP W E W.fuel s):=by
 have e:chain1 W lvOr (bothP W E) s=chW W lvOr (bothP W E) (bothP W E s):=rfl
 rw[e]
 conv=>lhs;arg 4;rw[climb_both]
 cases (mayP W (str [110,111,116]) s).1 with
 | true =>
  rw[if_pos rfl,if_pos rfl]
  rfl
 | false =>
  rw[if_neg Bool.false_ne_true,if_neg Bool.false_ne_true]
  rfl
theorem lvl_not {L:Nat} {s:PSt} (h1:1≤L) (h2:L≤2) (hm:(mayP W (str [110,111,116]) s).1=true):lvlX W E L s=clD W E L 2 (notX W E s):=by
 unfold clD
 rw[if_pos (by omega)]
 obtain rfl|rfl:L=1∨L=2:=by omega
 ·unfold lvlX;rw[if_pos rfl,climb_or,hm,if_pos rfl]
 ·unfold lvlX;rw[if_neg (by decide),if_pos rfl,climb_both,hm,if_pos rfl]
theorem lvl_one_ {L:Nat} {s:PSt} (h1:1≤L) (h2:L≤6) (hm:L≤2→(mayP W (str [110,111,116]) s).1=false):lvlX W E L s=clD W E L 9 (signedP W E W.fuel s):=by
 unfold clD
 obtain rfl|rfl|rfl|rfl|rfl|rfl:L=1∨L=2∨L=3∨L=4∨L=5∨L=6:=by omega
 ·rw[if_pos (by decide)];unfold lvlX;rw[if_pos rfl,climb_or,hm (by decide),if_neg Bool.false_ne_true]
 ·rw[if_pos (by decide)];unfold lvlX;rw[if_neg (by decide),if_pos rfl,climb_both,hm (by decide),if_neg Bool.false_ne_true]
 ·rw[if_pos (by decide),climb_cmp];rfl
 ·rw[if_pos (by decide),climb_sum];rfl
 ·rw[if_pos (by decide),climb_mul];rfl
 ·rw[if_neg (by decide)];rfl
variable {W E} {L most:Nat} {x:Ex×PSt} {op:Int} {p:Nat}
theorem cl_stop (hb:Binds W x.2 op p) (hm:1≤most) (h:p=0∨p<L∨most<p):clD W E L most x=x:=by
 unfold clD
 split
 ·by_cases h0:p=0
  ·obtain⟨_,a,b,c,d,e⟩:=hb.none_ (by omega)
   exact climb_none (fun _=>a) (fun _ _=>b) (fun _ _=>c) (fun _ _=>d) (fun _=>e)
  ·obtain⟨_,_,_,_,_,_,n5,n4,n3,n2,n1,_⟩:=hb.some_ (by omega)
   rcases h with h|h|h
   ·exact absurd h h0
   ·exact climb_none (fun _=>n5 (by omega)) (fun _ _=>n4 (by omega)) (fun _ _=>n3 (by omega)) (fun _ _=>n2 (by omega)) (fun _=>n1 (by omega))
   ·exact climb_none (fun _=>n5 (by omega)) (fun _ _=>n4 (by omega)) (fun _ _=>n3 (by omega)) (fun _ _=>n2 (by omega)) (fun _=>n1 (by omega))
 ·rfl
theorem cl_bad (h:x.2.bad=true):clD W E L most x=x:=by
 have hn:∀ l,opP W l x.2=(0,x.2):=fun l=>opP_none fun q _=>by
  unfold mayP
  rw[h]
  rfl
 unfold clD
 split
 ·exact climb_none (fun _=>hn _) (fun _ _=>hn _) (fun _ _=>hn _) (fun _ _=>hn _) (fun _=>hn _)
 ·rfl
theorem cl_go (hE:∀ s,Ge s (E s).2) (hb:Binds W x.2 op p) (h0:p≠0) (hl:L≤p) (hm:p≤most):clD W E L most x=clD W E L (if p=3 then 2 else p) (twoP op x.1 (rightX W E p x.2.on).1,(rightX W E p x.2.on).2):=by
 obtain⟨p1,p5,o1,_,hlt,_,n5,n4,n3,n2,n1,m5,m4,m3,m2,m1⟩:=hb.some_ (by omega)
 have ho:op≠0:=by omega
 unfold clD
 rw[if_pos (by omega),if_pos (by omega)]
 obtain rfl|rfl|rfl|rfl|rfl:p=1∨p=2∨p=3∨p=4∨p=5:=by omega
 ·rw[if_neg (by decide)]
  exact climb_1 ho hlt (up_both W hE) hl (n5 (by decide)) (n4 (by decide)) (n3 (by decide)) (n2 (by decide)) (m1 rfl)
 ·rw[if_neg (by decide)]
  exact climb_2 ho hlt (up_not W hE _) hl hm (n5 (by decide)) (n4 (by decide)) (n3 (by decide)) (m2 rfl)
 ·rw[if_pos rfl]
  exact climb_3 ho hl hm (n5 (by decide)) (n4 (by decide)) (m3 rfl)
 ·rw[if_neg (by decide)]
  exact climb_4 ho hlt (up_product W hE) hl hm (n5 (by decide)) (m4 rfl)
 ·rw[if_neg (by decide)]
  exact climb_5 ho hlt (up_signed W hE _) hm (m5 rfl)
end
end Go.Proofs.YtdgapmnojmhllaaGreatDoor
