/- Parts of this proof, one behind the other: RtK, RtL, PfB. -/
import Derived.Test.YtdgapmnojmhllaaGreatDoorPf32
import Derived.Test.YtdgapmnojmhllaaGreatDoorPf33
import Derived.Test.YtdgapmnojmhllaaGreatDoorPf24
set_option maxRecDepth 1000000
set_option maxHeartbeats 40000000
namespace Go.Proofs.YtdgapmnojmhllaaGreatDoor
open Go.RowKit Go.Afx
def endB (c:UInt8):Bool:=decide (c=32)||decide (c=10)||decide (c=40)||decide (c=41)||decide (c=44)||decide (c=46)||decide (c=58)||decide (c=59)||decide (c=123)||decide (c=125)
def Bd (R:List UInt8):Prop:=∀ c,R.head?=some c→endB c=true
theorem bd_nil:Bd []:=fun _ h=>by cases h
theorem bd_cons {c:UInt8} (h:endB c=true) (R:List UInt8):Bd (c::R):=fun d hd=>by cases hd;exact h
theorem endB_says {c:UInt8} (h:endB c=true):lexB c=false∧c.toNat≠39∧c≠61∧c≠47:=by
 unfold endB at h
 simp only[Bool.or_eq_true,decide_eq_true_eq] at h
 rcases h with ((((((((rfl|rfl)|rfl)|rfl)|rfl)|rfl)|rfl)|rfl)|rfl)|rfl
 all_goals exact⟨by decide,by decide,by decide,by decide⟩
theorem lx_blank {c:UInt8} (hc:wsB c=true) {R:List UInt8} {ks:List Key} (h:LexB R ks):LexB (c::R) ks:=by
 unfold LexB at *
 have e:blk false (c::R)=blk false R+1:=by
  rw[blk,if_pos hc,Nat.add_comm]
 rw[e,List.drop_succ_cons]
 exact h
theorem lx_word {t R:List UInt8} {ks:List Key} {x:Nx} (hx:nextX (t++R)=some x) (hl:x.len=t.length) (hb:∃ c r,t++R=c::r∧wsB c=false∧¬ (c.toNat=47∧r.head?=some 47)) (h:LexB R ks):LexB (t++R) (keyX x::ks):=by
 obtain⟨c,r,he,h1,h2⟩:=hb
 have e:blk false (t++R)=0:=by
  rw[he,blk,if_neg (by rw[h1];decide),if_neg h2]
 unfold LexB
 rw[e,List.drop_zero]
 refine .cons (by rw[he];exact List.cons_ne_nil _ _) hx ?_
 rw[hl,List.drop_left]
 exact h
theorem take_bd {t R:List UInt8} (ht:∀ c∈t,lexB c=true) (hR:Bd R):(t++R).takeWhile lexB=t:=by
 induction t with
 | nil =>
  cases R with
  | nil=>rfl
  | cons c r=>rw[List.nil_append,List.takeWhile_cons,(endB_says (hR c rfl)).1];rfl
 | cons a t ih =>
  rw[List.cons_append,List.takeWhile_cons,ht a (by simp),if_pos rfl,ih (fun c hc=>ht c (by simp[hc]))]
theorem part_lex {c:UInt8} (h:partB c=true):lexB c=true:=by
 unfold partB letterB at h
 unfold lexB
 simp only[Bool.or_eq_true,Bool.and_eq_true,decide_eq_true_eq] at *
 rcases h with (h|h)|h
 ·exact .inl (.inl (.inl h))
 ·exact .inl (.inr h)
 ·exact .inr h
theorem lex_nows {c:UInt8} (h:lexB c=true):wsB c=false∧c.toNat≠47:=by
 unfold lexB at h
 unfold wsB
 simp only[Bool.or_eq_true,Bool.and_eq_true,decide_eq_true_eq] at h
 simp
 omega
theorem str_list (b:ByteArray):str b.data.toList=b:=rfl
theorem lx_name {b:ByteArray} (hn:namedB b=true) {R:List UInt8} {ks:List Key} (hR:Bd R) (h:LexB R ks):LexB (b.data.toList++R) (idK b::ks):=by
 have hn2:=hn
 unfold namedB at hn2
 cases hd:b.data.toList with
 | nil=>rw[hd] at hn2;cases hn2
 | cons c r =>
  rw[hd] at hn2
  simp only[Bool.and_eq_true,decide_eq_true_eq,List.all_eq_true] at hn2
  obtain⟨⟨_,h2⟩,h3⟩:=hn2
  have hall:∀ a∈c::r,lexB a=true:=fun a ha=>by
   rcases List.mem_cons.1 ha with rfl|ha
   ·exact part_lex (by unfold partB;rw[h2];rfl)
   ·exact part_lex (h3 a ha)
  have hc:=hall c (by simp)
  have hdg:dgB c=false:=by
   unfold letterB at h2
   unfold dgB
   simp only[Bool.and_eq_true,decide_eq_true_eq] at h2
   simp
   omega
  have e:nextX ((c::r)++R)=some ⟨3,c::r,0,(c::r).length⟩:=by
   rw[List.cons_append,nextX_cons,hc,if_pos rfl]
   unfold plainX
   rw[← List.cons_append,take_bd hall hR]
   rw[if_neg (by simp[hdg])]
   rw[show namedB (str (c::r))=true by rw[← hd,str_list];exact hn,if_pos rfl]
  have:=lx_word e rfl ⟨c,r++R,rfl,(lex_nows hc).1,fun h=>(lex_nows hc).2 h.1⟩ h
  have ek:keyX (⟨3,c::r,0,(c::r).length⟩:Nx)=idK b:=by
   show (3,str (c::r),0)=(3,b,0)
   rw[← hd,str_list]
  rw[ek] at this
  exact this
theorem lx_kw {t:List UInt8} (hn:namedB (str t)=true) {R:List UInt8} {ks:List Key} (hR:Bd R) (h:LexB R ks):LexB (t++R) (nmK t::ks):=lx_name hn hR h
theorem lx_sign {g:List UInt8} (hg:g∈signsL) {R:List UInt8} {ks:List Key} (hR:∀ c,R.head?=some c→c≠61∧c≠47) (h:LexB R ks):LexB (g++R) (sgK g::ks):=by
 have e:nextX (g++R)=some ⟨0,g,0,g.length⟩∧∃ c r,g++R=c::r∧wsB c=false∧¬ (c.toNat=47∧r.head?=some 47):=by
  cases R with
  | nil =>
   simp only[signsL,List.mem_cons,List.not_mem_nil,or_false] at hg
   rcases hg with rfl|rfl|rfl|rfl|rfl|rfl|rfl|rfl|rfl|rfl|rfl|rfl|rfl|rfl|rfl|rfl|rfl|rfl|rfl|rfl|rfl
   all_goals exact⟨rfl,_,_,rfl,by decide,by decide⟩
  | cons a r =>
   obtain⟨h1,h2⟩:=hR a rfl
   have h1':¬ (61:UInt8)=a:=fun h=>h1 h.symm
   have h2':¬ a=47:=h2
   simp only[signsL,List.mem_cons,List.not_mem_nil,or_false] at hg
   rcases hg with rfl|rfl|rfl|rfl|rfl|rfl|rfl|rfl|rfl|rfl|rfl|rfl|rfl|rfl|rfl|rfl|rfl|rfl|rfl|rfl|rfl
   all_goals exact⟨by simp[nextX,lexB,signX,signsL,List.isPrefixOf,h1'],_,_,rfl,by decide,by simp[h2']⟩
 exact lx_word e.1 rfl e.2 h
theorem bd_sign {R:List UInt8} (h:Bd R):∀ c,R.head?=some c→c≠61∧c≠47:=fun c hc=>by
 obtain⟨_,_,h1,h2⟩:=endB_says (h c hc)
 exact⟨h1,h2⟩
/- numbers -/
theorem dig_of {k:Nat} (h:k<10):(UInt8.ofNat (48+k)).toNat=48+k:=by
 rw[UInt8.toNat_ofNat']
 omega
theorem digs_says:∀ (k n:Nat),n<10 ^ k→numL (digs n)=n∧(∀ c∈digs n,dgB c=true)∧(0<n→∃ c r,digs n=c::r∧c≠48):=by
  intro k
  induction k with
  | zero => intro n h;obtain rfl:n=0:=by simpa using h
            rw[digs_zero]
            exact⟨rfl,fun c hc=>(by cases hc),fun h=>(by omega)⟩
  | succ k ih =>
    intro n h
    rcases Nat.eq_zero_or_pos n with rfl|hp
    · rw[digs_zero]
      exact⟨rfl,fun c hc=>(by cases hc),fun h=>(by omega)⟩
    · obtain⟨h1,h2,h3⟩:=ih (n / 10) (by rw[Nat.pow_succ] at h;omega)
      have hd:=dig_of (Nat.mod_lt n (by omega:0<10))
      rw[digs_pos hp]
      refine⟨?_,fun c hc=>?_,fun _=>?_⟩
      · rw[numL_snoc,h1,hd];omega
      · rcases List.mem_append.1 hc with hc|hc
        · exact h2 c hc
        · obtain rfl:=List.mem_singleton.1 hc
          unfold dgB
          rw[hd]
          simp
          omega
      · rcases Nat.eq_zero_or_pos (n / 10) with h0|h0
        · rw[h0,digs_zero]
          refine⟨_,_,rfl,fun e=>?_⟩
          have:=congrArg UInt8.toNat e
          rw[hd] at this
          have e48:(48:UInt8).toNat=48:=rfl
          rw[e48] at this
          omega
        · obtain⟨c,r,hr,hc⟩:=h3 h0
          exact⟨c,_,by rw[hr];rfl,hc⟩
theorem dg_lex {c:UInt8} (h:dgB c=true):lexB c=true:=by
 unfold dgB at h
 unfold lexB
 simp only[Bool.or_eq_true,Bool.and_eq_true,decide_eq_true_eq] at *
 exact .inl (.inr h)
theorem dec_says {n:Int} (h0:0≤n) (h1:n≤9223372036854775807):(∀ c∈decS n,dgB c=true)∧(∃ c r,decS n=c::r)∧parseN (decS n)=some n.toNat:=by
  unfold decS
  by_cases h:n=0
  · subst h
    rw[if_pos rfl]
    exact⟨fun c hc=>by obtain rfl:=List.mem_singleton.1 hc;decide,⟨_,_,rfl⟩,by decide +kernel⟩
  · rw[if_neg h]
    obtain ⟨g1, g2, g3⟩ := digs_says 19 n.toNat (by have:(10:Nat) ^ 19=10000000000000000000:=by decide
                                                    omega)
    obtain⟨c,r,hr,hc⟩:=g3 (by omega)
    refine⟨g2,⟨c,r,hr⟩,?_⟩
    unfold parseN
    rw[g1,if_neg ?_,if_pos (by omega)]
    rintro(⟨h2,_⟩|h2)
    · rw[hr] at h2
      exact hc (Option.some.inj h2)
    · rw[List.all_eq_true.2 g2] at h2;cases h2
theorem lx_num {n:Int} (h0:0≤n) (h1:n≤9223372036854775807) {R:List UInt8} {ks:List Key} (hR:Bd R) (h:LexB R ks):LexB (decS n++R) ((1,str (decS n),n)::ks):=by
 obtain⟨g1,⟨c,r,hr⟩,g3⟩:=dec_says h0 h1
 have hc:=g1 c (by rw[hr];simp)
 have e:nextX (decS n++R)=some ⟨1,decS n,n,(decS n).length⟩:=by
  have ht:=take_bd (fun c hc=>dg_lex (g1 c hc)) hR
  generalize hT:decS n=T at *
  subst hr
  rw[List.cons_append,nextX_cons,dg_lex hc,if_pos rfl]
  unfold plainX
  rw[← List.cons_append,ht,if_pos (by simp[hc]),g3]
  show some (⟨1,c::r,((n.toNat:Nat):Int),(c::r).length⟩:Nx)=_
  rw[Int.toNat_of_nonneg h0]
 exact lx_word e rfl ⟨c,r++R,by rw[hr];rfl,(lex_nows (dg_lex hc)).1,fun h=>(lex_nows (dg_lex hc)).2 h.1⟩ h
/- texts -/
theorem quo_dbl {R:List UInt8} (hR:R.head?≠some 39):∀ (s acc:List UInt8) (i:Nat),(∀ c∈s,c≠10)→quo (dbl s++(39::R)) acc i=some (acc++s,i+(dbl s).length+1):=by
 intro s
 induction s with
 | nil =>
  intro acc i _
  show quo (39::R) acc i=_
  rw[((quo_at (c:=39) (r:=R) (acc:=acc) (i:=i)).2.2 rfl).2 hR]
  simp[dbl]
 | cons c s ih =>
  intro acc i h
  have hs:=fun d hd=>h d (List.mem_cons_of_mem c hd)
  by_cases hc:c=39
  ·subst hc
   have e:dbl (39::s)=39::39::dbl s:=rfl
   rw[e]
   show quo (39::(39::(dbl s++(39::R)))) acc i=_
   rw[((quo_at (c:=39) (r:=39::(dbl s++(39::R))) (acc:=acc) (i:=i)).2.2 rfl).1 rfl]
   show quo (dbl s++(39::R)) (acc++[39]) (i+2)=_
   rw[ih _ _ hs]
   simp only[List.append_assoc,List.cons_append,List.nil_append,List.length_cons]
   congr 2
   omega
  ·have e:dbl (c::s)=c::dbl s:=by unfold dbl;rw[List.flatMap_cons,if_neg hc];rfl
   rw[e]
   have h10:c.toNat≠10:=fun e=>h c (by simp) (UInt8.toNat_inj.1 e)
   have h39:c.toNat≠39:=fun e=>hc (UInt8.toNat_inj.1 e)
   rw[List.cons_append,quo_at.2.1 h10 h39,ih _ _ hs]
   simp only[List.append_assoc,List.cons_append,List.nil_append,List.length_cons]
   congr 2
   omega
theorem lx_quote {s:ByteArray} (hs:s.size≤200) (hn:s.data.toList.any (·==10)=false) {R:List UInt8} {ks:List Key} (hR:Bd R) (h:LexB R ks):LexB (quoteS s++R) ((2,s,0)::ks):=by
 have hh:R.head?≠some 39:=fun e=>(endB_says (hR 39 e)).2.1 rfl
 have hn2:∀ c∈s.data.toList,c≠10:=fun c hc e=>by
  have:=List.any_eq_false.1 hn c hc
  simp[e] at this
 have e0:quoteS s++R=39::(dbl s.data.toList++(39::R)):=by unfold quoteS;simp
 have hq:=quo_dbl hh s.data.toList [] 1 hn2
 have hsz:s.data.toList.length=s.size:=szl s
 have e:nextX (quoteS s++R)=some ⟨2,s.data.toList,0,1+(dbl s.data.toList).length+1⟩:=by
  rw[e0,nextX_cons,if_neg (by decide),if_pos (by decide)]
  unfold quotedX
  rw[List.drop_succ_cons,List.drop_zero,hq]
  simp only[List.nil_append]
  rw[if_pos (by omega)]
 exact lx_word e (by unfold quoteS;simp only[List.length_append,List.length_cons,List.length_nil]) ⟨39,_,e0,by decide,fun h=>absurd h.1 (by decide)⟩ h
def Lx (T:List UInt8) (K:List Key):Prop:=∀ R ks,Bd R→LexB R ks→LexB (T++R) (K++ks)
def NumE:Nat→Ex→Prop
 | 0,_=>True
 | d+1,e=>e.n≤9223372036854775807∧∀ x∈e.args,NumE d x
theorem named_of {b:ByteArray} (h:freeB b=true):namedB b=true:=by
 unfold freeB at h
 simp only[Bool.and_eq_true] at h
 exact h.1
theorem Lx.name {b:ByteArray} (h:freeB b=true):Lx b.data.toList [idK b]:=fun _ _ hR hl=>lx_name (named_of h) hR hl
theorem Lx.kw {t:List UInt8} (h:namedB (str t)=true):Lx t [nmK t]:=fun _ _ hR hl=>lx_kw h hR hl
theorem Lx.sign {t:List UInt8} (h:t∈signsL):Lx t [sgK t]:=fun _ _ hR hl=>lx_sign h (bd_sign hR) hl
theorem sgnL_lx {op:Int} (h1:6≤op) (h2:op≤18):Lx (sgnL op) [sgnK op]:=by
 obtain rfl|rfl|rfl|rfl|rfl|rfl|rfl|rfl|rfl|rfl|rfl|rfl|rfl:op=6∨op=7∨op=8∨op=9∨op=10∨op=11∨op=12∨op=13∨op=14∨op=15∨op=16∨op=17∨op=18:=by omega
 ·exact Lx.sign (t:=[43]) (by decide)
 ·exact Lx.sign (t:=[45]) (by decide)
 ·exact Lx.sign (t:=[42]) (by decide)
 ·exact Lx.sign (t:=[47]) (by decide)
 ·exact Lx.sign (t:=[37]) (by decide)
 ·exact Lx.sign (t:=[61]) (by decide)
 ·exact Lx.sign (t:=[33,61]) (by decide)
 ·exact Lx.sign (t:=[60]) (by decide)
 ·exact Lx.sign (t:=[60,61]) (by decide)
 ·exact Lx.sign (t:=[62,61]) (by decide)
 ·exact Lx.sign (t:=[62]) (by decide)
 ·exact Lx.kw (t:=[97,110,100]) (by decide +kernel)
 ·exact Lx.kw (t:=[111,114]) (by decide +kernel)
theorem fold_lx {op:Int} (h1:21≤op) (h2:op≤24):Lx (sgnL op) [sgnK op]:=by
 obtain rfl|rfl|rfl|rfl:op=21∨op=22∨op=23∨op=24:=by omega
 ·exact Lx.kw (t:=[99,111,117,110,116]) (by decide +kernel)
 ·exact Lx.kw (t:=[115,117,109]) (by decide +kernel)
 ·exact Lx.kw (t:=[109,105,110]) (by decide +kernel)
 ·exact Lx.kw (t:=[109,97,120]) (by decide +kernel)
theorem sg1 {c:UInt8} (hc:[c]∈signsL∧c≠47∧c≠60∧c≠61∧c≠62) {R:List UInt8} {ks:List Key} (h:LexB R ks):LexB (c::R) (sgK [c]::ks):=by
 obtain⟨hg,h1,h2,h3,h4⟩:=hc
 have hb:∃ c' r,[c]++R=c'::r∧wsB c'=false∧¬ (c'.toNat=47∧r.head?=some 47):=by
  refine⟨c,R,rfl,?_,fun h=>h1 (UInt8.toNat_inj.1 h.1)⟩
  simp only[signsL,List.mem_cons,List.not_mem_nil,or_false,List.cons.injEq,and_true] at hg
  simp at hg
  rcases hg with rfl|rfl|rfl|rfl|rfl|rfl|rfl|rfl|rfl|rfl|rfl|rfl|rfl|rfl|rfl|rfl|rfl|rfl
  all_goals decide
 have e:nextX ([c]++R)=some ⟨0,[c],0,1⟩:=by
  simp only[signsL,List.mem_cons,List.not_mem_nil,or_false,List.cons.injEq,and_true] at hg
  simp at hg
  rcases hg with rfl|rfl|rfl|rfl|rfl|rfl|rfl|rfl|rfl|rfl|rfl|rfl|rfl|rfl|rfl|rfl|rfl|rfl
  all_goals first|exact absurd rfl h1|exact absurd rfl h2|exact absurd rfl h3|exact absurd rfl h4|(simp[nextX,lexB,signX,signsL,List.isPrefixOf])
 exact lx_word e rfl hb h
theorem lx_opnd {op:Int} (h1:1≤op) (h2:op≤24) (L:Nat) {T:List UInt8} {K:List Key} (h:Lx T K):Lx (opnd (L:Int) op T) (opndK L op K):=by
 intro R ks hR hl
 have e:=lvlN_eq h1 h2
 unfold opnd
 by_cases hc:lvlN op<L
 ·rw[if_pos (by omega),opndK_in hc]
  have e1:[40]++T++[41]++R=40::(T++(41::R)):=by simp
  have e2:[sgK [40]]++K++[sgK [41]]++ks=sgK [40]::(K++(sgK [41]::ks)):=by simp
  rw[e1,e2]
  exact sg1 (by decide) (h _ _ (bd_cons (by decide) _) (sg1 (by decide) hl))
 ·rw[if_neg (by omega),opndK_out hc]
  exact h R ks hR hl
theorem lx_where {op n:Int} {T:List UInt8} {K:List Key} (h:Lx T K):Lx (whereT op n T) (whereK op n K):=by
 intro R ks hR hl
 unfold whereT whereK
 by_cases hc:op=3∧n=1
 ·rw[if_pos hc,if_pos hc];exact hl
 ·rw[if_neg hc,if_neg hc]
  have e1:[32,119,104,101,114,101,32]++T++R=32::([119,104,101,114,101]++(32::(T++R))):=by simp
  rw[e1]
  exact lx_blank (by decide) (lx_kw (by decide +kernel) (bd_cons (by decide) _) (lx_blank (by decide) (h _ _ hR hl)))
theorem lx_rows {name src:ByteArray} {op n:Int} {T:List UInt8} {K:List Key} (h1:freeB name=true) (h2:freeB src=true) (h:Lx T K):Lx (rowsT name src op n T) (rowsK name src op n K):=by
 intro R ks hR hl
 have e1:rowsT name src op n T++R=name.data.toList++(32::([105,110]++(32::(src.data.toList++(whereT op n T++R))))):=by unfold rowsT;simp
 have e2:rowsK name src op n K++ks=idK name::nmK [105,110]::idK src::(whereK op n K++ks):=by unfold rowsK;simp
 rw[e1,e2]
 have hb:Bd (whereT op n T++R):=by
  unfold whereT
  split
  ·exact hR
  ·exact bd_cons (by decide) _
 exact lx_name (named_of h1) (bd_cons (by decide) _) (lx_blank (by decide) (lx_kw (by decide +kernel) (bd_cons (by decide) _) (lx_blank (by decide) (lx_name (named_of h2) hb (lx_where h _ _ hR hl)))))
/- how texts are laid -/
section
variable {d:Nat} {op n:Int} {s name src:ByteArray} {a b:Ex}
theorem txt_two (h1:6≤op) (h2:op≤18):txtE (d+1) (.mk op n s name src [a,b])=opnd ((lvlN op+if lvlN op=4 then 1 else 0:Nat):Int) a.op (txtE d a)++([32]++sgnL op++[32])++opnd ((lvlN op+1:Nat):Int) b.op (txtE d b):=by
 have g1:¬ op=1:=by omega
 have g2:¬ op=2:=by omega
 have g3:¬ op=3:=by omega
 have g4:¬ op=4:=by omega
 have g5:¬ op=5:=by omega
 have g6:¬ (op=19∨op=20):=by omega
 have g7:¬ 21≤op:=by omega
 have e:((lvlN op+if lvlN op=4 then 1 else 0:Nat):Int)=lvlZ op+if lvlZ op=4 then 1 else 0:=by
  rw[lvlN_eq (by omega) (by omega)]
  by_cases h:lvlN op=4
  ·rw[if_pos h,if_pos (by omega)];omega
  ·rw[if_neg h,if_neg (by omega)];omega
 have e2:((lvlN op+1:Nat):Int)=lvlZ op+1:=by rw[lvlN_eq (by omega) (by omega)];omega
 rw[e,e2]
 simp only[txtE,Ex.op,Ex.args,g1,g2,g3,g4,g5,g6,g7,if_false]
 rfl
theorem txt_one (h:op=19∨op=20):txtE (d+1) (.mk op n s name src [a])=sgnL op++opnd ((lvlN op:Nat):Int) a.op (txtE d a):=by
 have g1:¬ op=1:=by omega
 have g2:¬ op=2:=by omega
 have g3:¬ op=3:=by omega
 have g4:¬ op=4:=by omega
 have g5:¬ op=5:=by omega
 rw[← lvlN_eq (by omega) (by omega)]
 simp only[txtE,Ex.op,Ex.args,g1,g2,g3,g4,g5,h,if_false,if_true]
theorem txt_count:txtE (d+1) (.mk 21 n s name src [a])=sgnL 21++[40]++rowsT name src a.op a.n (txtE d a)++[]++[41]:=rfl
theorem txt_fold (h1:22≤op):txtE (d+1) (.mk op n s name src [a,b])=sgnL op++[40]++rowsT name src a.op a.n (txtE d a)++([58,32]++txtE d b)++[41]:=by
 have g1:¬ op=1:=by omega
 have g2:¬ op=2:=by omega
 have g3:¬ op=3:=by omega
 have g4:¬ op=4:=by omega
 have g5:¬ op=5:=by omega
 have g6:¬ (op=19∨op=20):=by omega
 have g7:21≤op:=by omega
 have g8:¬ op=21:=by omega
 simp only[txtE,Ex.op,Ex.args,Ex.name,Ex.src,g1,g2,g3,g4,g5,g6,g7,g8,if_false,if_true]
end
def Fst (T:List UInt8):Prop:=∃ c r,T=c::r∧c≠61∧c≠47
theorem lexB_fst {c:UInt8} (h:lexB c=true):c≠61∧c≠47:=⟨fun e=>by subst e;revert h;decide,fun e=>by subst e;revert h;decide⟩
theorem fst_name {b:ByteArray} (h:freeB b=true):Fst b.data.toList:=by
 have hn:=named_of h
 unfold namedB at hn
 cases hd:b.data.toList with
 | nil=>rw[hd] at hn;cases hn
 | cons c r =>
  rw[hd] at hn
  simp only[Bool.and_eq_true] at hn
  exact⟨c,r,rfl,lexB_fst (part_lex (by unfold partB;rw[hn.1.2];rfl))⟩
theorem fst_app {T R:List UInt8} (h:Fst T):Fst (T++R):=by
 obtain⟨c,r,rfl,h1⟩:=h
 exact⟨c,r++R,rfl,h1⟩
theorem fst_opnd {L op:Int} {T:List UInt8} (h:Fst T):Fst (opnd L op T):=by
 unfold opnd
 split
 ·exact⟨40,_,rfl,by decide,by decide⟩
 ·exact h
theorem fst_expr:∀ (d:Nat) (e:Ex),builtE d e=true→NumE d e→Fst (txtE d e):=by
 intro d
 induction d with
 | zero=>intro e h;cases h
 | succ d ih =>
  intro e h hn
  obtain⟨n1,n2⟩:=hn
  rcases built_cases h with ⟨n,h0,rfl⟩|⟨s,_,rfl⟩|⟨n,hn,rfl⟩|⟨name,hf,rfl⟩|⟨s,name,hf,_,rfl⟩|⟨op,a,b,h1,h2,ha,_,rfl⟩|⟨op,a,h1,ha,rfl⟩|⟨name,src,a,_,_,_,rfl⟩|⟨op,name,src,a,b,h1,h2,_,_,_,_,rfl⟩
  ·obtain⟨g1,⟨c,r,hr⟩,_⟩:=dec_says h0 n1
   exact⟨c,r,hr,lexB_fst (dg_lex (g1 c (by rw[hr];simp)))⟩
  ·exact⟨39,_,rfl,by decide,by decide⟩
  ·rcases hn with rfl|rfl
   ·exact⟨102,_,rfl,by decide,by decide⟩
   ·exact⟨116,_,rfl,by decide,by decide⟩
  ·exact fst_name hf
  ·have e:txtE (d+1) (.mk 5 0 s name nil0 [])=name.data.toList++[46]++s.data.toList:=rfl
   rw[e]
   exact fst_app (fst_app (fst_name hf))
  ·unfold twoP
   rw[txt_two h1 h2]
   exact fst_app (fst_app (fst_opnd (ih a ha (n2 a (by simp[twoP,Ex.args])))))
  ·unfold oneP
   rw[txt_one h1]
   rcases h1 with rfl|rfl
   ·exact⟨110,_,rfl,by decide,by decide⟩
   ·exact⟨45,_,rfl,by decide,by decide⟩
  ·exact⟨99,_,rfl,by decide,by decide⟩
  ·rw[txt_fold h1]
   refine fst_app (fst_app (fst_app (fst_app ?_)))
   obtain rfl|rfl|rfl:op=22∨op=23∨op=24:=by omega
   ·exact⟨115,_,rfl,by decide,by decide⟩
   ·exact⟨109,_,rfl,by decide,by decide⟩
   ·exact⟨109,_,rfl,by decide,by decide⟩
theorem lx_expr:∀ (d:Nat) (e:Ex),builtE d e=true→nlE d e=false→NumE d e→Lx (txtE d e) (tokE d e):=by
 intro d
 induction d with
 | zero=>intro e h;cases h
 | succ d ih =>
  intro e h hnl hn
  obtain⟨n1,n2⟩:=hn
  rw[nlE] at hnl
  simp only[Bool.or_eq_false_iff] at hnl
  obtain⟨l1,l2⟩:=hnl
  have l2:=List.any_eq_false.1 l2
  have sub:∀ x∈e.args,builtE d x=true→Lx (txtE d x) (tokE d x):=fun x hx hb=>ih x hb (by simpa using l2 x hx) (n2 x hx)
  rcases built_cases h with ⟨n,h0,rfl⟩|⟨s,hs,rfl⟩|⟨n,hn,rfl⟩|⟨name,hf,rfl⟩|⟨s,name,hf,hs,rfl⟩|⟨op,a,b,h1,h2,ha,hb,rfl⟩|⟨op,a,h1,ha,rfl⟩|⟨name,src,a,h1,h2,ha,rfl⟩|⟨op,name,src,a,b,g1,g2,h1,h2,ha,hb,rfl⟩
  ·exact fun R ks hR hl=>lx_num h0 n1 hR hl
  ·exact fun R ks hR hl=>lx_quote hs (by simpa [Ex.op,Ex.s] using l1) hR hl
  ·rcases hn with rfl|rfl
   ·exact fun R ks hR hl=>lx_kw (t:=falseL) (by decide +kernel) hR hl
   ·exact fun R ks hR hl=>lx_kw (t:=trueL) (by decide +kernel) hR hl
  ·exact fun R ks hR hl=>lx_name (named_of hf) hR hl
  ·intro R ks hR hl
   have e1:txtE (d+1) (.mk 5 0 s name nil0 [])++R=name.data.toList++(46::(s.data.toList++R)):=by
    have:txtE (d+1) (.mk 5 0 s name nil0 [])=name.data.toList++[46]++s.data.toList:=rfl
    rw[this];simp
   rw[e1]
   exact lx_name (named_of hf) (bd_cons (by decide) _) (sg1 (by decide) (lx_name (named_of hs) hR hl))
  ·intro R ks hR hl
   have sa:=sub a (by simp[twoP,Ex.args]) ha
   have sb:=sub b (by simp[twoP,Ex.args]) hb
   have oa:=built_op ha
   have ob:=built_op hb
   unfold twoP
   rw[txt_two h1 h2,tok_two h1 h2]
   have e1:∀ X Y:List UInt8,X++([32]++sgnL op++[32])++Y++R=X++(32::(sgnL op++(32::(Y++R)))):=fun X Y=>by simp
   have e2:∀ X Y:List Key,X++(sgnK op::Y)++ks=X++(sgnK op::(Y++ks)):=fun X Y=>by simp
   rw[e1,e2]
   exact lx_opnd oa.1 oa.2 _ sa _ _ (bd_cons (by decide) _) (lx_blank (by decide) (sgnL_lx h1 h2 _ _ (bd_cons (by decide) _) (lx_blank (by decide) (lx_opnd ob.1 ob.2 _ sb _ _ hR hl))))
  ·intro R ks hR hl
   have sa:=sub a (by simp[oneP,Ex.args]) ha
   have oa:=built_op ha
   have fa:Fst (txtE d a):=fst_expr d a ha (n2 a (by simp[oneP,Ex.args]))
   unfold oneP
   rw[txt_one h1,tok_one h1]
   rcases h1 with rfl|rfl
   ·have e1:∀ X:List UInt8,sgnL 19++X++R=[110,111,116]++(32::(X++R)):=fun X=>by
     have:sgnL 19=[110,111,116,32]:=rfl
     rw[this];simp
    rw[e1]
    exact lx_kw (t:=[110,111,116]) (by decide +kernel) (bd_cons (by decide) _) (lx_blank (by decide) (lx_opnd oa.1 oa.2 _ sa _ _ hR hl))
   ·have e1:∀ X:List UInt8,sgnL 20++X++R=[45]++(X++R):=fun X=>by
     have:sgnL 20=[45]:=rfl
     rw[this];simp
    rw[e1]
    refine lx_sign (g:=[45]) (by decide) (fun c hc=>?_) (lx_opnd oa.1 oa.2 _ sa _ _ hR hl)
    obtain⟨c2,r,hr,h2⟩:=fst_app (R:=R) (fst_opnd (L:=((lvlN 20:Nat):Int)) (op:=a.op) fa)
    rw[hr] at hc
    cases hc
    exact h2
  ·intro R ks hR hl
   have sa:=sub a (by simp[Ex.args]) ha
   rw[txt_count,tok_count]
   have e1:∀ X:List UInt8,sgnL 21++[40]++X++[]++[41]++R=sgnL 21++(40::(X++(41::R))):=fun X=>by simp
   have e2:∀ X:List Key,[sgnK 21,sgK [40]]++(X++[sgK [41]])++ks=sgnK 21::(sgK [40]::(X++(sgK [41]::ks))):=fun X=>by simp
   rw[e1,e2]
   exact fold_lx (by omega) (by omega) _ _ (bd_cons (by decide) _) (sg1 (by decide) (lx_rows h1 h2 sa _ _ (bd_cons (by decide) _) (sg1 (by decide) hl)))
  ·intro R ks hR hl
   have sa:=sub a (by simp[Ex.args]) ha
   have sb:=sub b (by simp[Ex.args]) hb
   rw[txt_fold g1,tok_fold g1]
   have e1:∀ X Y:List UInt8,sgnL op++[40]++X++([58,32]++Y)++[41]++R=sgnL op++(40::(X++(58::(32::(Y++(41::R)))))):=fun X Y=>by simp
   have e2:∀ X Y:List Key,[sgnK op,sgK [40]]++(X++(sgK [58]::(Y++[sgK [41]])))++ks=sgnK op::(sgK [40]::(X++(sgK [58]::(Y++(sgK [41]::ks))))):=fun X Y=>by simp
   rw[e1,e2]
   exact fold_lx (by omega) g2 _ _ (bd_cons (by decide) _) (sg1 (by decide) (lx_rows h1 h2 sa _ _ (bd_cons (by decide) _) (sg1 (by decide) (lx_blank (by decide) (sb _ _ (bd_cons (by decide) _) (sg1 (by decide) hl))))))
open Go.RowKit Go.Afx
def outC:Bool→List UInt8→Nat
 | _,[]=>0
 | q,c::r=>if c=39 then outC (!q) r else if c=40∧q=false then 1+outC q r else outC q r
def parQ:Bool→List UInt8→Bool
 | q,[]=>q
 | q,c::r=>parQ (if c=39 then !q else q) r
theorem outC_app:∀ (A B:List UInt8) (q:Bool),outC q (A++B)=outC q A+outC (parQ q A) B:=by
 intro A
 induction A with
 | nil=>intro B q;show _=0+_;rw[Nat.zero_add];rfl
 | cons c r ih =>
  intro B q
  rw[List.cons_append,outC,outC,parQ]
  by_cases h:c=39
  ·rw[if_pos h,if_pos h,if_pos h,ih]
  ·rw[if_neg h,if_neg h,if_neg h]
   split
   ·rw[ih];omega
   ·rw[ih]
theorem parQ_app:∀ (A B:List UInt8) (q:Bool),parQ q (A++B)=parQ (parQ q A) B:=by
 intro A
 induction A with
 | nil=>intro B q;rfl
 | cons c r ih=>intro B q;rw[List.cons_append,parQ,ih];rfl
theorem outC_less {A B C:List UInt8} (h:parQ false A=false):outC false (A++B++C)+1=outC false (A++[40]++B++[41]++C):=by
 have e:∀ q,outC q ([41]++C)=outC q C:=fun q=>by
  rw[List.singleton_append,outC,if_neg (by decide),if_neg (by simp)]
 have e2:∀ X:List UInt8,outC false ([40]++X)=1+outC false X:=fun X=>by
  rw[List.singleton_append,outC,if_neg (by decide),if_pos ⟨rfl,rfl⟩]
 have e3:A++[40]++B++[41]++C=A++([40]++(B++([41]++C))):=by simp
 rw[e3,List.append_assoc A B C,outC_app A (B++C),h,outC_app B C,outC_app A ([40]++(B++([41]++C))),h,e2,outC_app B ([41]++C),e]
 omega
structure Bal (T:List UInt8) (n:Nat):Prop where
 out:outC false T=n
 par:parQ false T=false
 nl:∀ c∈T,c≠10
theorem Bal.app {A B:List UInt8} {a b:Nat} (h:Bal A a) (k:Bal B b):Bal (A++B) (a+b) :=
 ⟨by rw[outC_app,h.out,h.par,k.out],by rw[parQ_app,h.par,k.par],fun c hc=>(List.mem_append.1 hc).elim (h.nl c) (k.nl c)⟩
theorem bal_plain:∀ {T:List UInt8},(∀ c∈T,c≠39∧c≠40∧c≠10)→Bal T 0:=by
 intro T
 induction T with
 | nil=>intro _;exact⟨rfl,rfl,fun c hc=>(by cases hc)⟩
 | cons c r ih =>
  intro h
  obtain⟨h1,h2,h3⟩:=h c (by simp)
  have k:=ih fun x hx=>h x (by simp[hx])
  refine⟨?_,?_,fun x hx=>(h x hx).2.2⟩
  ·rw[outC,if_neg h1,if_neg (fun e=>h2 e.1)];exact k.out
  ·rw[parQ,if_neg h1];exact k.par
theorem bal_open:Bal [40] 1:=⟨by decide,by decide,by decide⟩
theorem bal_shut:Bal [41] 0:=bal_plain (by decide)
theorem lexB_plain {c:UInt8} (h:lexB c=true):c≠39∧c≠40∧c≠10:=⟨fun e=>by subst e;revert h;decide,fun e=>by subst e;revert h;decide,fun e=>by subst e;revert h;decide⟩
theorem named_lex {b:ByteArray} (hn:namedB b=true):∀ c∈b.data.toList,lexB c=true:=by
 unfold namedB at hn
 cases hd:b.data.toList with
 | nil=>rw[hd] at hn;cases hn
 | cons c r =>
  rw[hd] at hn
  simp only[Bool.and_eq_true,List.all_eq_true] at hn
  intro x hx
  rcases List.mem_cons.1 hx with rfl|hx
  ·exact part_lex (by unfold partB;rw[hn.1.2];rfl)
  ·exact part_lex (hn.2 x hx)
theorem bal_name {b:ByteArray} (h:freeB b=true):Bal b.data.toList 0:=bal_plain fun c hc=>lexB_plain (named_lex (named_of h) c hc)
theorem outT_dbl:∀ (l R:List UInt8),outC true (dbl l++R)=outC true R∧parQ true (dbl l++R)=parQ true R:=by
 intro l
 induction l with
 | nil=>intro R;exact⟨rfl,rfl⟩
 | cons c r ih =>
  intro R
  obtain⟨i1,i2⟩:=ih R
  have e:dbl (c::r)=(if c=39 then [39,39] else [c])++dbl r:=by unfold dbl;rw[List.flatMap_cons]
  rw[e]
  by_cases h:c=39
  ·rw[if_pos h]
   exact⟨i1,i2⟩
  ·rw[if_neg h]
   refine⟨?_,?_⟩
   ·show outC true (c::(dbl r++R))=_
    rw[outC,if_neg h,if_neg (by simp)];exact i1
   ·show parQ true (c::(dbl r++R))=_
    rw[parQ,if_neg h];exact i2
theorem bal_quote {s:ByteArray} (h:s.data.toList.any (·==10)=false):Bal (quoteS s) 0:=by
 have e:quoteS s=39::(dbl s.data.toList++[39]):=by unfold quoteS;simp
 rw[e]
 obtain⟨a,b⟩:=outT_dbl s.data.toList [39]
 refine⟨a,b,fun c hc=>?_⟩
 rcases List.mem_cons.1 hc with rfl|hc
 ·decide
 ·rcases List.mem_append.1 hc with hc|hc
  ·unfold dbl at hc
   obtain⟨x,hx,hc⟩:=List.mem_flatMap.1 hc
   have:=List.any_eq_false.1 h x hx
   split at hc
   ·have:c=39:=by simpa using hc
    subst this;decide
   ·obtain rfl:=List.mem_singleton.1 hc
    simpa using this
  ·obtain rfl:=List.mem_singleton.1 hc
   decide
theorem bal_sign {op:Int} (h1:6≤op) (h2:op≤24):Bal (sgnL op) 0:=by
 obtain rfl|rfl|rfl|rfl|rfl|rfl|rfl|rfl|rfl|rfl|rfl|rfl|rfl|rfl|rfl|rfl|rfl|rfl|rfl:op=6∨op=7∨op=8∨op=9∨op=10∨op=11∨op=12∨op=13∨op=14∨op=15∨op=16∨op=17∨op=18∨op=19∨op=20∨op=21∨op=22∨op=23∨op=24:=by omega
 all_goals exact bal_plain (by decide)
theorem bal_opnd {op:Int} (h1:1≤op) (h2:op≤24) (L:Nat) {T:List UInt8} {n:Nat} (h:Bal T n):Bal (opnd (L:Int) op T) (wrP L op n):=by
 have e:=lvlN_eq h1 h2
 unfold opnd wrP
 by_cases hc:lvlN op<L
 ·rw[if_pos (by omega),if_pos hc]
  have:=(bal_open.app h).app bal_shut
  rw[show 1+n+0=n+1 by omega] at this
  exact this
 ·rw[if_neg (by omega),if_neg hc]
  exact h
theorem bal_where {d:Nat} {a:Ex} {T:List UInt8} (h:Bal T (nP d a)):Bal (whereT a.op a.n T) (nP d a):=by
 unfold whereT
 split
 ·rename_i hc
  obtain⟨op,n,s,name,src,l⟩:=a
  rw[nP_low (by have:=hc.1;simp only[Ex.op] at this;omega)]
  exact⟨rfl,rfl,fun c hc=>(by cases hc)⟩
 ·have:=(bal_plain (T:=[32,119,104,101,114,101,32]) (by decide)).app h
  rw[Nat.zero_add] at this
  exact this
theorem bal_rows {d:Nat} {name src:ByteArray} {a:Ex} {T:List UInt8} (h1:freeB name=true) (h2:freeB src=true) (h:Bal T (nP d a)):Bal (rowsT name src a.op a.n T) (nP d a):=by
 have:=(((bal_name h1).app (bal_plain (T:=[32,105,110,32]) (by decide))).app (bal_name h2)).app (bal_where h)
 rw[show 0+0+0+nP d a=nP d a by omega] at this
 exact this
theorem bal_expr:∀ (d:Nat) (e:Ex),builtE d e=true→nlE d e=false→NumE d e→Bal (txtE d e) (nP d e):=by
 intro d
 induction d with
 | zero=>intro e h;cases h
 | succ d ih =>
  intro e h hnl hn
  obtain⟨n1,n2⟩:=hn
  rw[nlE] at hnl
  simp only[Bool.or_eq_false_iff] at hnl
  obtain⟨l1,l2⟩:=hnl
  have l2:=List.any_eq_false.1 l2
  have sub:∀ x∈e.args,builtE d x=true→Bal (txtE d x) (nP d x):=fun x hx hb=>ih x hb (by simpa using l2 x hx) (n2 x hx)
  rcases built_cases h with ⟨n,h0,rfl⟩|⟨s,hs,rfl⟩|⟨n,hn,rfl⟩|⟨name,hf,rfl⟩|⟨s,name,hf,hs,rfl⟩|⟨op,a,b,h1,h2,ha,hb,rfl⟩|⟨op,a,h1,ha,rfl⟩|⟨name,src,a,h1,h2,ha,rfl⟩|⟨op,name,src,a,b,g1,g2,h1,h2,ha,hb,rfl⟩
  ·rw[nP_low (by omega)]
   obtain⟨g1,_,_⟩:=dec_says h0 n1
   exact bal_plain fun c hc=>lexB_plain (dg_lex (g1 c hc))
  ·rw[nP_low (by omega)]
   exact bal_quote (by simpa [Ex.op,Ex.s] using l1)
  ·rw[nP_low (by omega)]
   rcases hn with rfl|rfl
   ·exact bal_plain (T:=falseL) (by decide)
   ·exact bal_plain (T:=trueL) (by decide)
  ·rw[nP_low (by omega)]
   exact bal_name hf
  ·rw[nP_low (by omega)]
   exact((bal_name hf).app (bal_plain (T:=[46]) (by decide))).app (bal_name hs)
  ·have sa:=sub a (by simp[twoP,Ex.args]) ha
   have sb:=sub b (by simp[twoP,Ex.args]) hb
   have oa:=built_op ha
   have ob:=built_op hb
   unfold twoP
   rw[txt_two h1 h2,nP_two h1 h2]
   have:=((bal_opnd oa.1 oa.2 (lvlN op+if lvlN op=4 then 1 else 0) sa).app (((bal_plain (T:=[32]) (by decide)).app (bal_sign h1 (by omega))).app (bal_plain (T:=[32]) (by decide)))).app (bal_opnd ob.1 ob.2 (lvlN op+1) sb)
   rw[show 0+0+0=0 from rfl,Nat.add_zero] at this
   exact this
  ·have sa:=sub a (by simp[oneP,Ex.args]) ha
   have oa:=built_op ha
   unfold oneP
   rw[txt_one h1,nP_one h1]
   have:=(bal_sign (op:=op) (by omega) (by omega)).app (bal_opnd oa.1 oa.2 (lvlN op) sa)
   rw[Nat.zero_add] at this
   exact this
  ·have sa:=sub a (by simp[Ex.args]) ha
   rw[txt_count,nP_count]
   have:=((((bal_sign (op:=21) (by omega) (by omega)).app bal_open).app (bal_rows h1 h2 sa)).app (bal_plain (T:=[]) (by decide))).app bal_shut
   rw[show 0+1+nP d a+0+0=1+nP d a by omega] at this
   exact this
  ·have sa:=sub a (by simp[Ex.args]) ha
   have sb:=sub b (by simp[Ex.args]) hb
   rw[txt_fold g1,nP_fold g1]
   have:=((((bal_sign (op:=op) (by omega) (by omega)).app bal_open).app (bal_rows h1 h2 sa)).app ((bal_plain (T:=[58,32]) (by decide)).app sb)).app bal_shut
   rw[show 0+1+nP d a+(0+nP d b)+0=1+nP d a+nP d b by omega] at this
   exact this
end Go.Proofs.YtdgapmnojmhllaaGreatDoor
