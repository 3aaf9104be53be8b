/- Parts of this proof, one behind the other: RgJ. -/
import Derived.Test.YtdgapmnojmhllaaGreatDoorPf43
import Derived.Deep.Cut
import Derived.Deep.DeepCutAuto
set_option maxRecDepth 1000000
set_option maxHeartbeats 40000000
namespace Go.Proofs.YtdgapmnojmhllaaGreatDoor
open Go.RowKit Go.Afx
structure BegunX (g gw:Nat) (W:Wds) (E:PSt→Ex×PSt) (s:PSt) (fin:Ex×PSt) (L:Nat) (w w1:World) (most:Nat) (x:Ex×PSt) (A:Option Addr) (m c D:Nat) (wr:World):Prop where
 lo:1≤most
 hi:most≤9
 p:DAt g gw W x.2 wr
 k0:IsBlk wr w.heap.size 32 zero6
 kb:IsBlk wr (w.heap.size+1) 32 #[.int .i64 x.1.op,.int .i64 x.1.n,.string x.1.s,.string x.1.name,.string x.1.src,.slice A m c]
 tr:ExAt (Fr w1) D wr (row6 x.1 A m c) x.1
 b:But (fun k=>k=g) w wr
 z:w1.heap.size≤wr.heap.size
 fin_:fin=clD W E L most x
 ge:Ge s x.2
def BegunAt (g gw:Nat) (W:Wds) (E:PSt→Ex×PSt) (s:PSt) (fin:Ex×PSt) (L:Nat) (w w1:World) (u6:Value) (wr:World):Prop:=∃ (most:Nat) (x:Ex×PSt) (A:Option Addr) (m c D:Nat),u6=.int .i64 most∧BegunX g gw W E s fin L w w1 most x A m c D wr
section
variable {g gw:Nat} {W:Wds} {E:PSt→Ex×PSt} {s:PSt} {fin:Ex×PSt} {L most:Nat} {w w1 wr w7:World} {x r:Ex×PSt} {A B:Option Addr} {m c D mb cb Db:Nat} {op:Int}
theorem begun_end (h:BegunX g gw W E s fin L w w1 most x A m c D wr) (he:clD W E L most x=x) (hz:g<w.heap.size∧gw<w.heap.size) (h1:w1.heap.size=w.heap.size+2) :
  IsBlk (lay6 wr w.heap.size (.int .i64 x.1.op) (.int .i64 x.1.n) (.string x.1.s) (.string x.1.name) (.string x.1.src) (.slice A m c)) w.heap.size 32 #[.int .i64 x.1.op,.int .i64 x.1.n,.string x.1.s,.string x.1.name,.string x.1.src,.slice A m c] ∧
  GivesD g gw W fin.2 fin.1 w (.returned (.agg #[.int .i64 x.1.op,.int .i64 x.1.n,.string x.1.s,.string x.1.name,.string x.1.src,.slice A m c])) (lay6 wr w.heap.size (.int .i64 x.1.op) (.int .i64 x.1.n) (.string x.1.s) (.string x.1.name) (.string x.1.src) (.slice A m c)):=by
 rw[h.fin_,he]
 exact gives_ofD h.tr h.p h.b h.k0 (Nat.le_refl _) (by omega) hz
theorem begun_next (h:BegunX g gw W E s fin L w w1 most x A m c D wr) (h1:w1.heap.size=w.heap.size+2) (hz:g<w.heap.size∧gw<w.heap.size)
  (hk0:IsBlk w7 w.heap.size 32 zero6) (hkb:IsBlk w7 (w.heap.size+1) 32 #[.int .i64 x.1.op,.int .i64 x.1.n,.string x.1.s,.string x.1.name,.string x.1.src,.slice A m c])
  (hx:ExAt (Fr w1) D w7 (row6 x.1 A m c) x.1) (hy:ExAt (Fr w1) Db w7 (row6 r.1 B mb cb) r.1) (hP:DAt g gw W r.2 w7) (hB:But (fun k=>k=g) w w7) (hs:w1.heap.size≤w7.heap.size) (hge:Ge x.2 r.2) (h0:0≤op) (h9:op≤100)
  (most':Nat) (hlo:1≤most') (hhi:most'≤9) (hfin:clD W E L most x=clD W E L most' (twoP op x.1 r.1,r.2)) :
  BegunX g gw W E s fin L w w1 most' (twoP op x.1 r.1,r.2) (some ⟨w7.heap.size,0,none⟩) 2 2 (max D Db+1) (lay6 (w7.alloc (.cells #[.int .i64 x.1.op,.int .i64 x.1.n,.string x.1.s,.string x.1.name,.string x.1.src,.slice A m c,.int .i64 r.1.op,.int .i64 r.1.n,.string r.1.s,.string r.1.name,.string r.1.src,.slice B mb cb] 32)) (w.heap.size+1) (.int .i64 op) (.int .i64 0) (.string ⟨#[]⟩) (.string ⟨#[]⟩) (.string ⟨#[]⟩) (.slice (some ⟨w7.heap.size,0,none⟩) 2 2)):=by
 have hx':=ExAt.conv (fun _ h=>h) (Kept.refl _ _) _ (Nat.le_max_left D Db) hx
 have hy':=ExAt.conv (fun _ h=>h) (Kept.refl _ _) _ (Nat.le_max_right D Db) hy
 obtain⟨t1,t2,t3⟩:=two_endD (op:=op) hx' hy' hkb (by omega) hs h0 h9
 exact⟨hlo,hhi,hP.elsewhere t3 (by omega) (by omega),hk0.as_was (t3.block _ hk0.lt (by omega)),t1,t2,hB.trans t3 (fun i hi=>.inr (by omega)),Nat.le_trans hs t3.size,by rw[h.fin_,hfin],h.ge.trans hge⟩
theorem begun_start {w2 w3:World} (h1:w1.heap.size=w.heap.size+2) (hz:g<w.heap.size∧gw<w.heap.size) (hk0:IsBlk w3 w.heap.size 32 zero6) (hkb:IsBlk w3 (w.heap.size+1) 32 zero6) (hx:ExAt (Fr w2) D w3 (row6 x.1 A m c) x.1) (h12:w1.heap.size≤w2.heap.size) (hP:DAt g gw W x.2 w3) (hB:But (fun k=>k=g) w w3) (h13:w1.heap.size≤w3.heap.size) (hfin:fin=clD W E L 9 x) (hge:Ge s x.2) :
  BegunX g gw W E s fin L w w1 9 x A m c D (lay6 w3 (w.heap.size+1) (.int .i64 x.1.op) (.int .i64 x.1.n) (.string x.1.s) (.string x.1.name) (.string x.1.src) (.slice A m c)):=by
 have hl:=lay6_but w3 (w.heap.size+1) (.int .i64 x.1.op) (.int .i64 x.1.n) (.string x.1.s) (.string x.1.name) (.string x.1.src) (.slice A m c)
 refine⟨by decide,by decide,hP.elsewhere hl (by omega) (by omega),hk0.as_was (hl.block _ hk0.lt (by omega)),lay6_blk _ _ _ _ _ _ hkb,?_,hB.trans hl (fun i hi=>.inr (by omega)),Nat.le_trans h13 hl.size,hfin,hge⟩
 exact ExAt.conv (fun k (hk:w2.heap.size≤k)=>by show w1.heap.size≤k;omega) (Kept.of_but hl fun k (hk:w2.heap.size≤k) e=>by omega) D (Nat.le_refl _) hx
theorem begun_not {f:Ex×PSt} {w5:World} (h1:w1.heap.size=w.heap.size+2) (hz:g<w.heap.size∧gw<w.heap.size) (hk0:IsBlk w5 w.heap.size 32 zero6) (hkb:IsBlk w5 (w.heap.size+1) 32 zero6) (hx:ExAt (Fr w1) D w5 (row6 f.1 A m c) f.1) (hP:DAt g gw W (leaveP f.2) w5) (hB:But (fun k=>k=g) w w5) (h15:w1.heap.size≤w5.heap.size) (hfin:fin=clD W E L 2 (oneP 19 f.1,leaveP f.2)) (hge:Ge s (leaveP f.2)) :
  BegunX g gw W E s fin L w w1 2 (oneP 19 f.1,leaveP f.2) (some ⟨w5.heap.size,0,none⟩) 1 1 (D+1) (lay6 (w5.alloc (.cells #[.int .i64 f.1.op,.int .i64 f.1.n,.string f.1.s,.string f.1.name,.string f.1.src,.slice A m c] 32)) (w.heap.size+1) (.int .i64 19) (.int .i64 0) (.string ⟨#[]⟩) (.string ⟨#[]⟩) (.string ⟨#[]⟩) (.slice (some ⟨w5.heap.size,0,none⟩) 1 1)):=by
 have hlit:=exs_lit (F:=Fr w1) (d:=D) (n:=1) (g:=w5.heap.size) (w:=w5) 32 [row6 f.1 A m c] [f.1] rfl h15 rfl (by omega) rfl (fun k r y h1 h2=>by
  rcases k with _|k
  ·simp at h1 h2
   subst h1 h2
   exact hx
  ·simp at h1)
 have hop:=ex_opn (op:=19) (by decide) (by decide) hlit
 simp only[row6,List.flatten_cons,List.flatten_nil,List.append_nil] at hop
 have hb:=(Below.refl w5.heap.size w5).alloc (Nat.le_refl _) (.cells #[.int .i64 f.1.op,.int .i64 f.1.n,.string f.1.s,.string f.1.name,.string f.1.src,.slice A m c] 32)
 have hl:=lay6_but (w5.alloc (.cells #[.int .i64 f.1.op,.int .i64 f.1.n,.string f.1.s,.string f.1.name,.string f.1.src,.slice A m c] 32)) (w.heap.size+1) (.int .i64 19) (.int .i64 0) (.string ⟨#[]⟩) (.string ⟨#[]⟩) (.string ⟨#[]⟩) (.slice (some ⟨w5.heap.size,0,none⟩) 1 1)
 refine⟨by decide,by decide,(hP.below hb).elsewhere hl (by omega) (by omega),(hk0.alloc _).as_was (hl.block _ (hk0.alloc _).lt (by omega)),lay6_blk _ _ _ _ _ _ (hkb.alloc _),?_,(hB.alloc _).trans hl (fun i hi=>.inr (by omega)),Nat.le_trans (Nat.le_trans h15 hb.size) hl.size,hfin,hge⟩
 exact ExAt.conv (fun _ h=>h) (Kept.of_but hl fun k (hk:w1.heap.size≤k) e=>by omega) _ (Nat.le_refl _) hop
end
def leftD (W:Wds) (g:Nat) (w:World):Nat:=W.l.length-(intOf ((w.cell? ⟨g,1,none⟩).getD undef)).toNat
theorem leftD_at {g gw:Nat} {W:Wds} {s:PSt} {w:World} (h:DAt g gw W s w):leftD W g w=W.l.length-s.at_:=by
 obtain⟨_,_,_,_,c1,_⟩:=h.cells
 unfold leftD
 rw[c1]
 simp[intOf]
def RightD (g gw:Nat) (W:Wds) (E:PSt→Ex×PSt) (s:PSt):Prop:=∀ w,DAt g gw W s w→(Calls Tryz.prog 66 #[.pointer (some ⟨g,0,none⟩)] w (GivesD g gw W (rightX W E 2 s).2 (rightX W E 2 s).1 w))∧(Calls Tryz.prog 27 #[.pointer (some ⟨g,0,none⟩),.int .i64 2] w (GivesD g gw W (rightX W E 1 s).2 (rightX W E 1 s).1 w)) ∧
 ∀ p:Nat,3≤p→p≤5→Calls Tryz.prog 27 #[.pointer (some ⟨g,0,none⟩),.int .i64 ((p:Int)+1)] w (GivesD g gw W (rightX W E p s).2 (rightX W E p s).1 w)
theorem up_lvl (W:Wds) {E:PSt→Ex×PSt} (hE:∀ s,Ge s (E s).2) (L:Nat) (s:PSt):Ge s (lvlX W E L s).2:=by
 unfold lvlX
 split
 ·exact up_chain1 W _ (up_both W hE) s
 ·split
  ·exact up_both W hE s
  ·split
   ·exact up_cmp W hE s
   ·split
    ·exact up_sum W hE s
    ·split
     ·exact up_product W hE s
     ·exact up_signed W hE _ s
theorem up_right (W:Wds) {E:PSt→Ex×PSt} (hE:∀ s,Ge s (E s).2) (p:Nat) (s:PSt):Ge s (rightX W E p s).2:=by
 unfold rightX
 split
 ·exact up_not W hE _ s
 ·split
  ·exact up_lvl W hE 2 s
  ·exact up_lvl W hE _ s
structure Taken (g gw:Nat) (W:Wds) (E:PSt→Ex×PSt) (s:PSt) (fin:Ex×PSt) (L:Nat) (w w1 wr:World) (most:Nat) (x:Ex×PSt) (A:Option Addr) (m c D:Nat) (r:Ex×PSt) (B:Option Addr) (mb cb Db gR:Nat) (w6:World):Prop where
 k0:IsBlk (lay6 w6 gR (.int .i64 r.1.op) (.int .i64 r.1.n) (.string r.1.s) (.string r.1.name) (.string r.1.src) (.slice B mb cb)) w.heap.size 32 zero6
 kb:IsBlk (lay6 w6 gR (.int .i64 r.1.op) (.int .i64 r.1.n) (.string r.1.s) (.string r.1.name) (.string r.1.src) (.slice B mb cb)) (w.heap.size+1) 32 #[.int .i64 x.1.op,.int .i64 x.1.n,.string x.1.s,.string x.1.name,.string x.1.src,.slice A m c]
 kR:IsBlk (lay6 w6 gR (.int .i64 r.1.op) (.int .i64 r.1.n) (.string r.1.s) (.string r.1.name) (.string r.1.src) (.slice B mb cb)) gR 32 #[.int .i64 r.1.op,.int .i64 r.1.n,.string r.1.s,.string r.1.name,.string r.1.src,.slice B mb cb]
 tx:ExAt (Fr w1) D (lay6 w6 gR (.int .i64 r.1.op) (.int .i64 r.1.n) (.string r.1.s) (.string r.1.name) (.string r.1.src) (.slice B mb cb)) (row6 x.1 A m c) x.1
 tr:ExAt (Fr w1) Db (lay6 w6 gR (.int .i64 r.1.op) (.int .i64 r.1.n) (.string r.1.s) (.string r.1.name) (.string r.1.src) (.slice B mb cb)) (row6 r.1 B mb cb) r.1
 p:DAt g gw W r.2 (lay6 w6 gR (.int .i64 r.1.op) (.int .i64 r.1.n) (.string r.1.s) (.string r.1.name) (.string r.1.src) (.slice B mb cb))
 b:But (fun k=>k=g) w (lay6 w6 gR (.int .i64 r.1.op) (.int .i64 r.1.n) (.string r.1.s) (.string r.1.name) (.string r.1.src) (.slice B mb cb))
 z:w1.heap.size≤(lay6 w6 gR (.int .i64 r.1.op) (.int .i64 r.1.n) (.string r.1.s) (.string r.1.name) (.string r.1.src) (.slice B mb cb)).heap.size
 old:IsBlk w6 gR 32 zero6
theorem taken_of {g gw:Nat} {W:Wds} {E:PSt→Ex×PSt} {s:PSt} {fin:Ex×PSt} {L:Nat} {w w1 wr w5 w6:World} {most:Nat} {x:Ex×PSt} {A:Option Addr} {m c D:Nat} {r:Ex×PSt} {B:Option Addr} {mb cb Db gR:Nat}
  (h:BegunX g gw W E s fin L w w1 most x A m c D wr) (h1:w1.heap.size=w.heap.size+2) (hz:g<w.heap.size∧gw<w.heap.size) (hB5:But (fun k=>k=g) wr w5) (hR:IsBlk w5 gR 32 zero6) (hgR:wr.heap.size≤gR) (hy:ExAt (Fr w5) Db w6 (row6 r.1 B mb cb) r.1) (hP:DAt g gw W r.2 w6) (hB:But (fun k=>k=g) w5 w6) :
  Taken g gw W E s fin L w w1 wr most x A m c D r B mb cb Db gR w6:=by
 have hl:=lay6_but w6 gR (.int .i64 r.1.op) (.int .i64 r.1.n) (.string r.1.s) (.string r.1.name) (.string r.1.src) (.slice B mb cb)
 have hB6:=hB5.trans' hB
 have hzz:=h.z
 have k0:=one_blk h.k0 hB6 (by omega)
 have kb:=one_blk h.kb hB6 (by omega)
 have kR:=one_blk hR hB (by omega)
 have hlt:=hR.lt
 have hs5:=hB5.size
 have hs6:=hB.size
 refine⟨k0.as_was (hl.block _ k0.lt (by omega)),kb.as_was (hl.block _ kb.lt (by omega)),lay6_blk _ _ _ _ _ _ kR,?_,?_,hP.elsewhere hl (by omega) (by omega),(h.b.trans' hB6).trans hl (fun i hi=>.inr (by omega)),Nat.le_trans (by omega) hl.size,kR⟩
 ·refine h.tr.kept ⟨Nat.le_trans hB6.size hl.size,fun k hk (hf:w1.heap.size≤k)=>?_⟩
  rw[hl.block k (Nat.lt_of_lt_of_le hk hB6.size) (by omega)]
  exact hB6.block k hk (by omega)
 ·exact ExAt.conv (fun k (hk:w5.heap.size≤k)=>by show w1.heap.size≤k;omega) (Kept.of_but hl fun k (hk:w5.heap.size≤k) e=>by omega) Db (Nat.le_refl _) hy
theorem dExpr_any (g gw:Nat) (W:Wds) (E:PSt→Ex×PSt) (hE:∀ s,Ge s (E s).2) (L:Nat) (hL1:1≤L) (hL6:L≤6) (s:PSt) (w:World) (h:DAt g gw W s w)
  (hS:SingleD g gw W (signedP W E W.fuel) s)
  (hN:mayP W (str [110,111,116]) s=(true,s.on)→NotD g gw W (notP W E W.fuel) (enterP s.on))
  (hR:∀ s',Ge s s'→s'.bad=false→s'.at_<W.l.length→RightD g gw W E s'.on) :
  Calls Tryz.prog 27 #[.pointer (some ⟨g,0,none⟩),.int .i64 L] w (GivesD g gw W (lvlX W E L s).2 (lvlX W E L s).1 w):=by
 have hz:=And.intro h.lt h.wl
 obtain⟨w1,Hw1⟩:∃ w1,Hid (w1=(w.alloc (.cells zero6 32)).alloc (.cells zero6 32)):=⟨_,rfl⟩
 have hb1:Below w.heap.size w w1:=by rw[Hw1.out];exact((Below.refl _ _).alloc (Nat.le_refl _) _).alloc (by simp) _
 have hk0:IsBlk w1 w.heap.size 32 zero6:=by rw[Hw1.out];exact(IsBlk.laid _ _ _).alloc _
 have hkb:IsBlk w1 (w.heap.size+1) 32 zero6:=by rw[Hw1.out];exact blk_new (by simp)
 have hsz:w1.heap.size=w.heap.size+2:=by rw[Hw1.out];simp
 have h1:=h.below hb1
 have H1:=Lhd (And.intro h1 (But.of_below (S:=fun k=>k=g) hb1))
 have HK:=Lhd (And.intro hk0 hkb)
 have Hz:=Lhd (And.intro hz hsz)
 have HS:=Lhd hS
 have HN:=Lhd hN
 have HR:=Lhd hR
 have HE:=Lhd hE
 have hnot:=fun h2 hm=>lvl_not W E (s:=s) hL1 h2 hm
 have hone:=fun hm=>lvl_one_ W E (s:=s) hL1 hL6 hm
 generalize lvlX W E L s=fin at *
 have Hnot:=Lhd hnot
 have Hone:=Lhd hone
 clear h h1 hz hb1 hk0 hkb hsz hS hN hR hE hnot hone
 go_enter Tryz.func27,Tryz.ntmps27
 go_upto_region 3 with (fail)
 rw[← Hw1.out]
 go_cut [17] (fun u17 wr=>u17=.bool (decide (L≤2)&&(mayP W (str [110,111,116]) s).1)∧DAt g gw W (if L≤2 then (mayP W (str [110,111,116]) s).2 else s) wr∧But (fun k=>k=g) w1 wr)
 case first =>
  rcases Nat.lt_or_ge 2 L with hL|hL
  ·have hd:decide ((L:Int)≤2)=false:=by simp;omega
   have Hm:=Lhd (show Value.bool false=.bool (decide (L≤2)&&(mayP W (str [110,111,116]) s).1)∧DAt g gw W (if L≤2 then (mayP W (str [110,111,116]) s).2 else s) w1∧But (fun k=>k=g) w1 w1 from by
    rw[decide_eq_false (by omega),if_neg (by omega)]
    exact⟨rfl,H1.out.1,But.refl _ _⟩)
   clear hL
   go_wp2
   go_meet
   exact Hm.out
  ·have hd:decide ((L:Int)≤2)=true:=by simp;omega
   have HM:=Lhd (dMay_any g gw W s (str [110,111,116]) w1 H1.out.1)
   have Hm:=Lhd (fun (w2:World) (hP:DAt g gw W (mayP W (str [110,111,116]) s).2 w2) (hB:But (fun k=>k=g) w1 w2)=>(show Value.bool (mayP W (str [110,111,116]) s).1=.bool (decide (L≤2)&&(mayP W (str [110,111,116]) s).1)∧DAt g gw W (if L≤2 then (mayP W (str [110,111,116]) s).2 else s) w2∧But (fun k=>k=g) w1 w2 from by
    rw[decide_eq_true hL,if_pos hL]
    exact⟨rfl,hP,hB⟩))
   simp only[str] at HM Hm
   clear hL
   go_wp2_with (fail)
   refine HM.out.mono ?_
   rintro e w2 ⟨rfl,hP,hB⟩
   have Hm:=Lhd (Hm.out w2 hP hB)
   clear hP hB
   go_wp2
   go_meet
   exact Hm.out
 case rest =>
 obtain⟨hu,hP,hB⟩:=hcut
 obtain⟨b,hb⟩:∃ b,(decide (L≤2)&&(mayP W (str [110,111,116]) s).1)=b:=⟨_,rfl⟩
 rw[hb] at hu
 subst hu
 have Hcut:=Lhd (And.intro hb (And.intro hP hB))
 clear hb hP hB
 go_upto_if 17 with (fail)
 go_cut [6] (fun u6 wr=>BegunAt g gw W E s fin L w w1 u6 wr)
 case first =>
  have hsing:∀ (w2:World),DAt g gw W s w2→But (fun k=>k=g) w1 w2→∀ (w3:World) (row:List Value) (D:Nat),ExAt (Fr w2) D w3 row (signedP W E W.fuel s).1→DAt g gw W (signedP W E W.fuel s).2 w3→But (fun k=>k=g) w2 w3→(L≤2→(mayP W (str [110,111,116]) s).1=false)→∃ A m c,row=row6 (signedP W E W.fuel s).1 A m c∧IsBlk w3 (w.heap.size+1) 32 zero6∧BegunX g gw W E s fin L w w1 9 (signedP W E W.fuel s) A m c D (lay6 w3 (w.heap.size+1) (.int .i64 (signedP W E W.fuel s).1.op) (.int .i64 (signedP W E W.fuel s).1.n) (.string (signedP W E W.fuel s).1.s) (.string (signedP W E W.fuel s).1.name) (.string (signedP W E W.fuel s).1.src) (.slice A m c)):=by
   intro w2 _ hB2 w3 row D hx hP hB3 hm
   obtain⟨A,m,c,rfl⟩:=ex_row6 hx
   have hk0:=one_blk HK.out.1 (hB2.trans' hB3) (by have:=Hz.out;omega)
   have hkb:=one_blk HK.out.2 (hB2.trans' hB3) (by have:=Hz.out;omega)
   exact⟨A,m,c,rfl,hkb,begun_start Hz.out.2 Hz.out.1 hk0 hkb hx hB2.size hP ((H1.out.2.trans' hB2).trans' hB3) (hB2.trans' hB3).size (Hone.out hm) (up_signed W HE.out _ s)⟩
  have Hsing:=Lhd hsing
  unfold SingleD at HS
  clear hsing
  cases b with
  | false =>
   have hb:=Hcut.out.1
   have hst:(if L≤2 then (mayP W (str [110,111,116]) s).2 else s)=s:=by
    split
    ·rename_i h2
     rw[decide_eq_true h2] at hb
     exact mayP_no (by simpa using hb)
    ·rfl
   have hm0:L≤2→(mayP W (str [110,111,116]) s).1=false:=fun h2=>by
    rw[decide_eq_true h2] at hb
    simpa using hb
   have H2:=Hcut.out.2
   rw[hst] at H2
   have H2:=Lhd H2
   have Hm0:=Lhd hm0
   clear hb hst hm0
   generalize signedP W E W.fuel s=x0 at *
   go_wp2_with (fail)
   refine(HS.out _ H2.out.1).mono ?_
   rintro e w3 ⟨row,D,rfl,hx,hP,hB⟩
   obtain⟨A,m,c,rfl,hkb,hbx⟩:=Hsing.out _ H2.out.1 H2.out.2 w3 row D hx hP hB Hm0.out
   have HX:=Lhd hbx
   obtain⟨y0,y1,y2,y3,y4,y5,yl⟩:=cells6 hkb
   have fb:=hkb.frozen
   clear hx hP hB hkb hbx
   go_wp2
   go_meet
   exact⟨9,x0,A,m,c,D,rfl,HX.out⟩
  | true =>
   have hb:=Hcut.out.1
   have hL:L≤2:=by
    have:decide (L≤2)=true:=by revert hb;cases decide (L≤2)<;>simp
    exact of_decide_eq_true this
   have hmt:(mayP W (str [110,111,116]) s).1=true:=by
    rw[decide_eq_true hL] at hb
    simpa using hb
   have H2:=Hcut.out.2
   rw[if_pos hL] at H2
   have hc:=(may_yes2 hmt).1
   rw[hc] at H2
   have H2:=Lhd H2
   clear hb
   ·have HN2:=Lhd (HN.out hc)
    have Hent:=Lhd (enterT g gw W s.on)
    have hnx:notX W E s=(oneP 19 (notP W E W.fuel (enterP s.on)).1,leaveP (notP W E W.fuel (enterP s.on)).2):=by unfold notX;rw[hc]
    have hfin:=Hnot.out hL (by rw[hc])
    rw[hnx] at hfin
    have hge:Ge s (leaveP (notP W E W.fuel (enterP s.on)).2):=(ge_on s).trans ((ge_enter _).trans ((up_not W HE.out _ _).trans (ge_leave _)))
    unfold NotD at HN2
    generalize notP W E W.fuel (enterP s.on)=f at *
    have Hfin:=Lhd (And.intro hfin hge)
    clear hL hc hmt hnx hfin hge
    go_wp2_with (fail)
    refine(Hent.out _ H2.out.1).mono ?_
    rintro e w3 ⟨rfl,hP,hB⟩
    have H3:=Lhd (And.intro hP (H2.out.2.trans' hB))
    clear hP hB
    go_wp2_with (fail)
    refine(HN2.out _ H3.out.1).mono ?_
    rintro e w4 ⟨row,D,rfl,hx,hP,hB⟩
    obtain⟨A2,m2,c2,rfl⟩:=ex_row6 hx
    have hal:=(Below.refl w4.heap.size w4).alloc (Nat.le_refl _) (.cells #[.int .i64 f.1.op,.int .i64 f.1.n,.string f.1.s,.string f.1.name,.string f.1.src,.slice A2 m2 c2] 32)
    have hkx:IsBlk (w4.alloc (.cells #[.int .i64 f.1.op,.int .i64 f.1.n,.string f.1.s,.string f.1.name,.string f.1.src,.slice A2 m2 c2] 32)) w4.heap.size 32 #[.int .i64 f.1.op,.int .i64 f.1.n,.string f.1.s,.string f.1.name,.string f.1.src,.slice A2 m2 c2]:=IsBlk.laid _ _ _
    obtain⟨w5,Hw5⟩:∃ w5,Hid (w5=w4.alloc (.cells #[.int .i64 f.1.op,.int .i64 f.1.n,.string f.1.s,.string f.1.name,.string f.1.src,.slice A2 m2 c2] 32)):=⟨_,rfl⟩
    rw[← Hw5.out] at hal hkx
    have hP5:=hP.below hal
    have hB14:=H3.out.2.trans' hB
    have hk50:=(one_blk HK.out.1 hB14 (by have:=Hz.out;omega)).as_was (hal.block _ (Nat.lt_of_lt_of_le HK.out.1.lt hB14.size))
    have hk5b:=(one_blk HK.out.2 hB14 (by have:=Hz.out;omega)).as_was (hal.block _ (Nat.lt_of_lt_of_le HK.out.2.lt hB14.size))
    have hs3:=H3.out.2.size
    have hs4:=hB.size
    have hs5:=hal.size
    have hx5:ExAt (Fr w1) D w5 (row6 f.1 A2 m2 c2) f.1:=ExAt.conv (fun k (hk:w3.heap.size≤k)=>by show w1.heap.size≤k;omega) (Kept.of_below hal) D (Nat.le_refl _) hx
    have hB5:=(H1.out.2.trans' hB14).trans' (But.of_below hal)
    have hne:g≠w4.heap.size:=by have:=Hz.out;omega
    have hone:But (fun k=>k=g) w5 (w5.setCell ⟨g,2,none⟩ (.int .i64 (wrap64 (f.2.deep-1)))):=but_cell (But.refl _ _) 2 _
    have hP6:=deep_leave hP5
    have hk60:=one_blk hk50 hone (by have:=Hz.out;omega)
    have hk6b:=one_blk hk5b hone (by have:=Hz.out;omega)
    have hkx6:=one_blk hkx hone hne
    have hx6:ExAt (Fr w1) D (w5.setCell ⟨g,2,none⟩ (.int .i64 (wrap64 (f.2.deep-1)))) (row6 f.1 A2 m2 c2) f.1:=ExAt.conv (fun _ h=>h) (Kept.of_but hone fun k (hk:w1.heap.size≤k) (e:k=g)=>by have:=Hz.out;omega) D (Nat.le_refl _) hx5
    obtain⟨B,n,c,c0,c1,c2',c3,c4,cg,cf⟩:=hP5.cells
    obtain⟨w6,Hw6⟩:∃ w6,Hid (w6=w5.setCell ⟨g,2,none⟩ (.int .i64 (wrap64 (f.2.deep-1)))):=⟨_,rfl⟩
    rw[← Hw6.out] at hP6 hk60 hk6b hkx6 hx6 hone
    have hs6:=hone.size
    have H:=Lhd (begun_not (s:=s) (fin:=fin) (E:=E) (L:=L) Hz.out.2 Hz.out.1 hk60 hk6b hx6 hP6 (hB5.trans' hone) (by omega) Hfin.out.1 Hfin.out.2)
    have Hk6:=Lhd hk6b
    have Hkx6:=Lhd hkx6
    clear hx hP hB hal hkx hP5 hk50 hk5b hx5 hB5 hone hP6 hk60 hk6b hkx6 hx6 c0 c1 c3 c4 hs3 hs4 hs5 hs6 hne hB14
    go_upto_region 6 with (fail)
    rw[← Hw5.out]
    go_upto_region 7 with (fail)
    rw[← Hw6.out]
    clear c2' cg cf
    obtain⟨x0,x1,x2,x3,x4,x5,xl⟩:=cells6 Hk6.out
    obtain⟨y0,y1,y2,y3,y4,y5,yl⟩:=cells6 Hkx6.out
    have f6:=Hk6.out.frozen
    go_wp2
    rw[lay6_eq,← lay6_alloc xl]
    go_meet
    exact⟨2,_,_,_,_,_,rfl,H.out⟩
 case rest =>
  have Hc:=Lhd hcut
  clear hcut Hcut
  go_wp2_with (fail)
  go_loopw [6] (fun u6 wr=>BegunAt g gw W E s fin L w w1 u6 wr) (fun _ wr=>leftD W g wr)
  case atStart=>exact Hc.out
  case round =>
   obtain⟨most,x,A,m,c,D,rfl,hX⟩:=hrel
   have HX:=Lhd hX
   obtain⟨Aw,nw,cw,c0,c1,c2,c3,c4,cg,cf⟩:=hX.p.cells
   clear hX Hc
   cases hbad:x.2.bad with
   | true =>
    rw[hbad] at c4
    have H:=Lhd (begun_end HX.out (cl_bad hbad) Hz.out.1 Hz.out.2)
    obtain⟨y0,y1,y2,y3,y4,y5,yl⟩:=cells6 HX.out.kb
    obtain⟨z0,z1,z2,z3,z4,z5,zl⟩:=cells6 HX.out.k0
    have fz:=HX.out.k0.frozen
    clear hbad c0 c1 c2 c3 cf
    go_wp2
    rw[lay6_eq]
    exact bodyPost_ret (ret_ex Tryz.results27 rfl H.out.1 rfl) rfl H.out.2
   | false =>
    rw[hbad] at c4
    have HB:=Lhd (bindT g gw W x.2 wr HX.out.p)
    have hbi:=binds_of W x.2
    have hp:∃ p:Nat,(bindP W x.2).2=p:=by
     by_cases h0:(bindP W x.2).2=0
     ·exact⟨0,h0⟩
     ·obtain⟨h1,_⟩:=hbi.some_ h0
      exact⟨(bindP W x.2).2.toNat,by omega⟩
    obtain⟨p,hp⟩:=hp
    generalize (bindP W x.2).1=op at *
    rw[hp] at hbi HB
    have Hbi:=Lhd hbi
    have Hbad:=Lhd hbad
    clear hbi hp hbad c0 c1 c2 c3 cf
    by_cases hstop:p=0∨p<L∨most<p
    ·have H0:=Lhd (cl_stop (L:=L) (E:=E) (x:=x) Hbi.out HX.out.lo hstop)
     go_wp2_with (fail)
     refine HB.out.mono ?_
     rintro e w3 ⟨rfl,hP,hB⟩
     have hX3:BegunX g gw W E s fin L w w1 most x A m c D w3:=⟨HX.out.lo,HX.out.hi,hP,one_blk HX.out.k0 hB (by have:=Hz.out;omega),one_blk HX.out.kb hB (by have:=Hz.out;omega),ExAt.conv (fun _ h=>h) (Kept.of_but hB fun k (hk:w1.heap.size≤k) (e:k=g)=>by have:=Hz.out;omega) D (Nat.le_refl _) HX.out.tr,HX.out.b.trans' hB,Nat.le_trans HX.out.z hB.size,HX.out.fin_,HX.out.ge⟩
     have H:=Lhd (begun_end hX3 H0.out Hz.out.1 Hz.out.2)
     obtain⟨y0,y1,y2,y3,y4,y5,yl⟩:=cells6 hX3.kb
     obtain⟨z0,z1,z2,z3,z4,z5,zl⟩:=cells6 hX3.k0
     have fz:=hX3.k0.frozen
     clear hP hB hX3
     have hq:(((p:Int)==0)=true)∨(((p:Int)==0)=false∧decide (p<L)=true)∨(((p:Int)==0)=false∧decide (p<L)=false∧decide (most<p)=true):=by
      by_cases h0:p=0
      ·exact .inl (by rw[h0];rfl)
      ·have e0:((p:Int)==0)=false:=by rw[beq_eq_false_iff_ne];omega
       by_cases h1:p<L
       ·exact .inr (.inl ⟨e0,decide_eq_true h1⟩)
       ·exact .inr (.inr ⟨e0,decide_eq_false h1,decide_eq_true (by omega)⟩)
     clear hstop
     rcases hq with q0|⟨q0,q1⟩|⟨q0,q1,q2⟩
     all_goals
      go_wp2
      rw[lay6_eq]
      exact bodyPost_ret (ret_ex Tryz.results27 rfl H.out.1 rfl) rfl H.out.2
    ·have hgo:p≠0∧L≤p∧p≤most:=by omega
     have hcl:=cl_go (W:=W) (E:=E) (L:=L) (most:=most) HE.out Hbi.out hgo.1 hgo.2.1 hgo.2.2
     obtain⟨p1,p5,o6,o18,hlt,_⟩:=Hbi.out.some_ (by omega)
     have hRt:=HR.out x.2 HX.out.ge Hbad.out hlt
     have hup:=up_right W HE.out p x.2.on
     have hsm:=at_small HX.out.p
     have q0:((p:Int)==0)=false:=by rw[beq_eq_false_iff_ne];omega
     have q1:decide (p<L)=false:=decide_eq_false (by omega)
     have q2:decide (most<p)=false:=decide_eq_false (by omega)
     have hp5:p≤5:=by omega
     have Ho:=Lhd (And.intro (show 0≤op by omega) (show op≤100 by omega))
     have Hlt:=Lhd hlt
     have Hcl:=Lhd hcl
     have HRt:=Lhd hRt
     have Hup:=Lhd hup
     have Hle:∀ (w9:World) (r:Ex×PSt),DAt g gw W r.2 w9→Ge x.2.on r.2→leftD W g w9<leftD W g wr:=fun w9 r hP hge=>by
      rw[leftD_at hP,leftD_at HX.out.p]
      have h1:=hge.1
      have h2:x.2.on.at_=x.2.at_+1:=rfl
      have h3:=Hlt.out
      omega
     have Hle:=Lhd Hle
     clear hcl hRt hup hlt o6 o18 hstop
     have hp3:p=1∨p=2∨(3≤p∧p≤5):=by omega
     go_wp2_with (fail)
     refine HB.out.mono ?_
     rintro e w3 ⟨rfl,hP3,hB3⟩
     have hP4:=hP3.on_ Hlt.out
     have hB4:=but_cell hB3 1 (.int .i64 ((x.2.at_+1:Nat):Int))
     have hw4e:Hid (w3.setCell ⟨g,1,none⟩ (.int .i64 ((x.2.at_+1:Nat):Int))=w3.setCell ⟨g,1,none⟩ (.int .i64 ((x.2.at_:Int)+1))):=rfl
     rw[hw4e.out] at hP4 hB4
     obtain⟨w5,Hw5⟩:∃ w5,Hid (w5=(w3.setCell ⟨g,1,none⟩ (.int .i64 ((x.2.at_:Int)+1))).alloc (.cells zero6 32)):=⟨_,rfl⟩
     have hal:=(Below.refl (w3.setCell ⟨g,1,none⟩ (.int .i64 ((x.2.at_:Int)+1))).heap.size (w3.setCell ⟨g,1,none⟩ (.int .i64 ((x.2.at_:Int)+1)))).alloc (Nat.le_refl _) (.cells zero6 32)
     have hP5:=hP4.below hal
     have hB5:=hB4.alloc (.cells zero6 32)
     have hR5:IsBlk ((w3.setCell ⟨g,1,none⟩ (.int .i64 ((x.2.at_:Int)+1))).alloc (.cells zero6 32)) w3.heap.size 32 zero6:=blk_new (by rw[set_size])
     rw[← Hw5.out] at hP5 hB5 hR5
     obtain⟨Av,nv,cv,c0,c1,c2,c3,c4',cg',cf⟩:=hP3.cells
     have hgR:=hB3.size
     have H5:=Lhd (And.intro hP5 (And.intro hB5 (And.intro hR5 hgR)))
     have Hrt5:=Lhd (HRt.out w5 hP5)
     have Hge:=Lhd ((ge_on x.2).trans Hup.out)
     clear hP4 hB4 hal hP5 hB5 hR5 hgR hP3 hB3 hw4e c0 c2 c3 c4' hgo
     have hw:4≤p→(p:Int)+1=(p:Int)+1:=fun _=>rfl
     clear hw
     have hway:∃ most':Nat,1≤most'∧most'≤9∧clD W E L most x=clD W E L most' (twoP op x.1 (rightX W E p x.2.on).1,(rightX W E p x.2.on).2) ∧
       ((((p:Int)==2)=false∧((p:Int)==1)=true∧((p:Int)==3)=false∧most'=p∧Calls Tryz.prog 27 #[.pointer (some ⟨g,0,none⟩),.int .i64 2] w5 (GivesD g gw W (rightX W E p x.2.on).2 (rightX W E p x.2.on).1 w5)) ∨
       (((p:Int)==2)=true∧((p:Int)==3)=false∧most'=p∧Calls Tryz.prog 66 #[.pointer (some ⟨g,0,none⟩)] w5 (GivesD g gw W (rightX W E p x.2.on).2 (rightX W E p x.2.on).1 w5)) ∨
       (((p:Int)==2)=false∧((p:Int)==1)=false∧((p:Int)==3)=true∧most'=2∧Calls Tryz.prog 27 #[.pointer (some ⟨g,0,none⟩),.int .i64 ((p:Int)+1)] w5 (GivesD g gw W (rightX W E p x.2.on).2 (rightX W E p x.2.on).1 w5)) ∨
       (((p:Int)==2)=false∧((p:Int)==1)=false∧((p:Int)==3)=false∧most'=p∧Calls Tryz.prog 27 #[.pointer (some ⟨g,0,none⟩),.int .i64 ((p:Int)+1)] w5 (GivesD g gw W (rightX W E p x.2.on).2 (rightX W E p x.2.on).1 w5))):=by
      have hcl:=Hcl.out
      rcases hp3 with e|e|⟨e1,e2⟩
      ·refine⟨p,by omega,by omega,by rw[if_neg (by omega)] at hcl;exact hcl,.inl ⟨by rw[beq_eq_false_iff_ne];omega,by rw[beq_iff_eq];omega,by rw[beq_eq_false_iff_ne];omega,rfl,?_⟩⟩
       subst e
       exact Hrt5.out.2.1
      ·refine⟨p,by omega,by omega,by rw[if_neg (by omega)] at hcl;exact hcl,.inr (.inl ⟨by rw[beq_iff_eq];omega,by rw[beq_eq_false_iff_ne];omega,rfl,?_⟩)⟩
       subst e
       exact Hrt5.out.1
      ·by_cases e3:p=3
       ·exact⟨2,by omega,by omega,by rw[if_pos e3] at hcl;exact hcl,.inr (.inr (.inl ⟨by rw[beq_eq_false_iff_ne];omega,by rw[beq_eq_false_iff_ne];omega,by rw[beq_iff_eq];omega,rfl,Hrt5.out.2.2 p e1 e2⟩))⟩
       ·exact⟨p,by omega,by omega,by rw[if_neg e3] at hcl;exact hcl,.inr (.inr (.inr ⟨by rw[beq_eq_false_iff_ne];omega,by rw[beq_eq_false_iff_ne];omega,by rw[beq_eq_false_iff_ne];omega,rfl,Hrt5.out.2.2 p e1 e2⟩))⟩
     obtain⟨most',hm1,hm9,hcl2,hcalls⟩:=hway
     generalize rightX W E p x.2.on=r at *
     have Hcl2:=Lhd (And.intro hm1 (And.intro hm9 hcl2))
     clear hp3 hm1 hm9 hcl2
     rcases hcalls with ⟨q3,q4,q5,hm',hc⟩|⟨q3,q5,hm',hc⟩|⟨q3,q4,q5,hm',hc⟩|⟨q3,q4,q5,hm',hc⟩
     all_goals
      have Hc:=Lhd hc
      have Hm':=Lhd hm'
      clear hc hm'
      go_upto_region 19 with (fail)
      rw[← Hw5.out]
      go_wp2_with (fail)
      refine Hc.out.mono ?_
      rintro e w6 ⟨row,Db,rfl,hy,hP6,hB6⟩
      obtain⟨B,mb,cb,rfl⟩:=ex_row6 hy
      have hT:=taken_of HX.out Hz.out.2 Hz.out.1 H5.out.2.1 H5.out.2.2.1 H5.out.2.2.2 hy hP6 hB6
      have hnext:=begun_next (op:=op) HX.out Hz.out.2 Hz.out.1 hT.k0 hT.kb hT.tx hT.tr hT.p hT.b hT.z Hge.out Ho.out.1 Ho.out.2 most' Hcl2.out.1 Hcl2.out.2.1 Hcl2.out.2.2
      obtain⟨v0,v1,v2,v3,v4,v5,vl⟩:=cells6 hT.old
      have vf:=hT.old.frozen
      obtain⟨w7,Hw7⟩:∃ w7,Hid (w7=lay6 w6 w3.heap.size (.int .i64 r.1.op) (.int .i64 r.1.n) (.string r.1.s) (.string r.1.name) (.string r.1.src) (.slice B mb cb)):=⟨_,rfl⟩
      have hkb:=hT.kb
      have hkR:=hT.kR
      rw[← Hw7.out] at hnext hkb hkR
      have Hn:=Lhd hnext
      have HkK:=Lhd (And.intro hkb hkR)
      clear hnext hT hy hP6 hB6 hkb hkR
      go_upto_region 24 with (fail)
      rw[lay6_eq,← Hw7.out]
      clear v0 v1 v2 v3 v4 v5 vl vf
      obtain⟨x0,x1,x2,x3,x4,x5,xl⟩:=cells6 HkK.out.1
      obtain⟨y0,y1,y2,y3,y4,y5,yl⟩:=cells6 HkK.out.2
      have fx:=HkK.out.1.frozen
      go_wp2
      rw[lay6_eq,← lay6_alloc xl]
      go_roundw
      case rel=>exact⟨most',_,_,_,_,_,by rw[Hm'.out]<;>rfl,Hn.out⟩
      case measure=>exact Hle.out _ r Hn.out.p Hup.out
end Go.Proofs.YtdgapmnojmhllaaGreatDoor
