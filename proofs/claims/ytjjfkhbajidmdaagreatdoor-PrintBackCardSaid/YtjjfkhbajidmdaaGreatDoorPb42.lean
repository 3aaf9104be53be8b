/- Parts of this proof, one behind the other: RtE, RtF, RtG, RtH. -/
import Derived.Test.YtjjfkhbajidmdaaGreatDoorPb41
set_option maxRecDepth 1000000
set_option maxHeartbeats 40000000
namespace Go.Afx
open Go.RowKit
theorem NG {W:aV} {i:Nat} {k:Int} {rest:List Key} {name src:ByteArray} (h1:aJ name=true) (h2:aJ src=true) (hA:At W i (kP name::dY [105,110]::kP src::rest)):bF W (bV i k)=((name,src),bV (i+1+1+1) k):=by
 unfold bF
 simp only
 rw[kQ hA (jF h1)]
 simp only
 rw[gq hA.next (show aj (dY [105,110]) (str [105,110])=true by decide +kernel),kQ hA.next.next (jF h2)]
theorem JP {d:Nat} {a:Ex} (hc:Claim d a 1) (hb:aA d a=true) {W:aV} {f i:Nat} {k:Int} {rest:List Key} (hA:At W i (lW a.op a.n (tokE d a)++rest)) (hf:(lW a.op a.n (tokE d a)).length≤f) (hn:pY 1 rest) (hw:aj (dK rest) (str [119,104,101,114,101])=false) (h0:0≤k) (hk:k+2*(dQ d a:Int)≤61) :
  bG W (ik W f) (bV i k)=(a,bV (i+(lW a.op a.n (tokE d a)).length) k):=by
 unfold lW at *
 by_cases h:a.op=3∧a.n=1
 ·rw[if_pos h] at hA hf ⊢
  have ha:a=.mk 3 1 nil0 nil0 nil0 []:=by
   obtain⟨d,rfl⟩:∃ m,d=m+1:=by cases d with
    | zero=>cases hb
    | succ d=>exact⟨d,rfl⟩
   obtain⟨h1,h2⟩:=h
   rcases pg hb with ⟨n,_,rfl⟩|⟨s,_,rfl⟩|⟨n,hn,rfl⟩|⟨name,hf,rfl⟩|⟨s,name,hf,_,rfl⟩|⟨op,a,b,h3,_,ha,_,rfl⟩|⟨op,a,h3,ha,rfl⟩|⟨name,src,a,_,_,_,rfl⟩|⟨op,name,src,a,b,h3,_,_,_,_,_,rfl⟩
   ·cases h1
   ·cases h1
   ·have h2:n=1:=h2
    rw[h2]
   ·cases h1
   ·cases h1
   ·have h1:op=3:=h1
    omega
   ·have h1:op=3:=h1
    omega
   ·cases h1
   ·have h1:op=3:=h1
    omega
  unfold bG
  rw[jw hA hw,if_neg Bool.false_ne_true,ha]
  rfl
 ·rw[if_neg h] at hA hf ⊢
  unfold bG
  have hA:At W i (dY [119,104,101,114,101]::(tokE d a++rest)):=hA
  rw[jE hA (show aj (dY [119,104,101,114,101]) (str [119,104,101,114,101])=true by decide +kernel),if_pos rfl]
  simp only[List.length_cons] at hf ⊢
  rw[IA hc hA.next (by omega) hn h0 hk]
  congr 2
  omega
theorem Lt {W:aV} {i:Nat} {k:Int} {op:Int} {rest:List Key} (h1:21≤op) (h2:op≤24) (hA:At W i (gV op::rest)):dE W (bV i k)=(op,bV (i+1) k):=by
 unfold dE
 simp only[iR hA,show dK (gV op::rest)=gV op from rfl]
 obtain rfl|rfl|rfl|rfl:op=21∨op=22∨op=23∨op=24:=by omega
 ·rw[show aj (gV 21) (str [99,111,117,110,116])=true by decide +kernel];rfl
 ·rw[show aj (gV 22) (str [99,111,117,110,116])=false by decide +kernel,show aj (gV 22) (str [115,117,109])=true by decide +kernel];rfl
 ·rw[show aj (gV 23) (str [99,111,117,110,116])=false by decide +kernel,show aj (gV 23) (str [115,117,109])=false by decide +kernel,show aj (gV 23) (str [109,105,110])=true by decide +kernel];rfl
 ·rw[show aj (gV 24) (str [99,111,117,110,116])=false by decide +kernel,show aj (gV 24) (str [115,117,109])=false by decide +kernel,show aj (gV 24) (str [109,105,110])=false by decide +kernel,gq hA (show aj (gV 24) (str [109,97,120])=true by decide +kernel)];rfl
theorem zZ {d:Nat} {e:Ex} (hl:df e.op=8) (h:∀ (W:aV) (f i:Nat) (k:Int) (rest:List Key),At W i (tokE d e++rest)→(tokE d e).length≤f→pY 9 rest→0≤k→k+2*(dQ d e:Int)≤61→eY W (ik W f) (bV i k)=(e,bV (i+(tokE d e).length) k)):Claim d e 8:=by
 intro W f g i k rest hA hf hg hn h0 hk
 rw[je (by omega)] at hA hf ⊢
 rw[if_neg (by omega)] at hk
 unfold Reach
 rw[if_neg (by decide)]
 exact h W f i k rest hA hf hn h0 hk
theorem UT (d:Nat):(∀ n,Claim (d+1) (.mk 1 n nil0 nil0 nil0 []) 8)∧(∀ s,Claim (d+1) (.mk 2 0 s nil0 nil0 []) 8)∧(∀ n,n=0∨n=1→Claim (d+1) (.mk 3 n nil0 nil0 nil0 []) 8) ∧
  (∀ name,aJ name=true→Claim (d+1) (.mk 4 0 nil0 name nil0 []) 8)∧(∀ s name,aJ name=true→aJ s=true→Claim (d+1) (.mk 5 0 s name nil0 []) 8):=by
 refine⟨fun n=>zZ rfl ?_,fun s=>zZ rfl ?_,fun n hn=>zZ rfl ?_,fun name hf=>zZ rfl ?_,fun s name hf hs=>zZ rfl ?_⟩
 ·intro W f i k rest hA _ _ _ _
  have hA:At W i ((1,str (dU n),n)::rest):=hA
  have k1:(W.look (bV i k).at_).kind=1:=jG hA
  have k2:(W.look (bV i k).at_).n=n:=UQ hA
  unfold eY
  rw[k1,k2]
  rfl
 ·intro W f i k rest hA _ _ _ _
  have hA:At W i ((2,s,0)::rest):=hA
  have k1:(W.look (bV i k).at_).kind=2:=jG hA
  have k2:(W.look (bV i k).at_).text=s:=Ls hA
  unfold eY
  rw[k1,k2]
  rfl
 ·intro W f i k rest hA _ _ _ _
  rcases hn with rfl|rfl
  ·have hA:At W i (dY gz::rest):=hA
   have k1:(W.look (bV i k).at_).kind=3:=jG hA
   unfold eY
   rw[k1,mX hA,mX hA,show aj (dK (dY gz::rest)) (str [116,114,117,101])=false from (by decide +kernel:aj (dY gz) (str [116,114,117,101])=false),show aj (dK (dY gz::rest)) (str [102,97,108,115,101])=true from (by decide +kernel:aj (dY gz) (str [102,97,108,115,101])=true)]
   rfl
  ·have hA:At W i (dY jR::rest):=hA
   have k1:(W.look (bV i k).at_).kind=3:=jG hA
   unfold eY
   rw[k1,mX hA,show aj (dK (dY jR::rest)) (str [116,114,117,101])=true from (by decide +kernel:aj (dY jR) (str [116,114,117,101])=true)]
   rfl
 ·intro W f i k rest hA _ hn _ _
  have hA:At W i (kP name::rest):=hA
  have k1:(W.look (bV i k).at_).kind=3:=jG hA
  have hh:∀ t:ByteArray,aJ t=false→jO W (bV i k) t=false:=fun t ht=>by rw[mX hA];exact mY hf ht
  unfold eY
  rw[k1,hh _ (by decide +kernel),hh _ (by decide +kernel),hh _ (by decide +kernel),hh _ (by decide +kernel),hh _ (by decide +kernel),hh _ (by decide +kernel),hh _ (by decide +kernel)]
  show Ko W (bV i k)=_
  unfold Ko
  simp only
  rw[kQ hA (jF hf)]
  simp only
  rw[jw hA.next hn.2,if_neg Bool.false_ne_true]
  rfl
 ·intro W f i k rest hA _ hn _ _
  have hA:At W i (kP name::bK [46]::kP s::rest):=hA
  have k1:(W.look (bV i k).at_).kind=3:=jG hA
  have hh:∀ t:ByteArray,aJ t=false→jO W (bV i k) t=false:=fun t ht=>by rw[mX hA];exact mY hf ht
  unfold eY
  rw[k1,hh _ (by decide +kernel),hh _ (by decide +kernel),hh _ (by decide +kernel),hh _ (by decide +kernel),hh _ (by decide +kernel),hh _ (by decide +kernel),hh _ (by decide +kernel)]
  show Ko W (bV i k)=_
  unfold Ko
  simp only
  rw[kQ hA (jF hf)]
  simp only
  rw[jE hA.next (show aj (bK [46]) (str [46])=true by decide +kernel),if_pos rfl]
  simp only
  rw[kQ hA.next.next (jF hs)]
  rfl
theorem Gf {W:aV} {E:au→Ex×au} {i:Nat} {k:Int} {op:Int} {rest:List Key} (h1:21≤op) (h2:op≤24) (hA:At W i (gV op::rest)):eY W E (bV i k)=tY W E (bV i k):=by
 have k1:(W.look (bV i k).at_).kind=3:=by
  have:(W.look (bV i k).at_).kind=(gV op).1:=jG hA
  rw[this]
  obtain rfl|rfl|rfl|rfl:op=21∨op=22∨op=23∨op=24:=by omega
  all_goals rfl
 have h3:jO W (bV i k) (str [116,114,117,101])=false∧jO W (bV i k) (str [102,97,108,115,101])=false∧(jO W (bV i k) (str [99,111,117,110,116])||jO W (bV i k) (str [115,117,109])||jO W (bV i k) (str [109,105,110])||jO W (bV i k) (str [109,97,120]))=true:=by
  simp only[mX hA,show dK (gV op::rest)=gV op from rfl]
  obtain rfl|rfl|rfl|rfl:op=21∨op=22∨op=23∨op=24:=by omega
  all_goals decide +kernel
 unfold eY
 rw[k1,h3.1,h3.2.1,h3.2.2]
 rfl
end Go.Afx
namespace Go.Afx
open Go.RowKit
theorem EZ (name src:ByteArray) (op n:Int) (t:List Key):(ig name src op n t).length=3+(lW op n t).length:=by
 unfold ig;simp only[List.length_append,List.length_cons,List.length_nil]
theorem UU (d:Nat) {name src:ByteArray} {a:Ex} (h1:aJ name=true) (h2:aJ src=true) (hb:aA d a=true) (IH:Claim d a 1):Claim (d+1) (.mk 21 0 nil0 name src [a]) 8:=by
 refine zZ rfl ?_
 rw[EY]
 intro W f i k rest hA hf hn h0 hk
 have hd:=vM (d:=d) (op:=21) (n:=0) (s:=nil0) (name:=name) (src:=src) (x:=a) (List.mem_singleton.2 rfl)
 simp only[List.length_append,List.length_cons,List.length_nil,EZ] at hf ⊢
 have hA:At W i (gV 21::bK [40]::((ig name src a.op a.n (tokE d a)++[bK [41]])++rest)):=by
  rw[List.append_assoc] at hA;exact hA
 have hB:At W (i+1+1) (kP name::dY [105,110]::kP src::(lW a.op a.n (tokE d a)++(bK [41]::rest))):=by
  have:=hA.next.next
  rw[List.append_assoc] at this
  unfold ig at this
  rw[List.append_assoc] at this
  exact this
 have hC:=hB.next.next.next
 rw[Gf (by omega) (by omega) hA]
 unfold tY
 simp only
 rw[Lt (by omega) (by omega) hA]
 simp only
 rw[gq hA.next (show aj (bK [40]) (str [40])=true by decide +kernel),enter_at h0 (by omega),NG h1 h2 hB]
 simp only
 rw[JP IH hb hC (by omega) (kR (by decide +kernel)) (by show aj (bK [41]) _=false;decide +kernel) (by omega) (by omega),if_pos trivial]
 simp only
 rw[gq hC.skip (show aj (bK [41]) (str [41])=true by decide +kernel),o9 h0 (by omega)]
 congr 2
 omega
theorem X5 (d:Nat) {op:Int} {name src:ByteArray} {a b:Ex} (g1:22≤op) (g2:op≤24) (h1:aJ name=true) (h2:aJ src=true) (hb:aA d a=true) (IH:Claim d a 1) (IHb:Claim d b 1):Claim (d+1) (.mk op 0 nil0 name src [a,b]) 8:=by
 refine zZ (by show df op=8;unfold df;(repeat' split)<;>omega) ?_
 rw[JL g1]
 intro W f i k rest hA hf hn h0 hk
 have hd:=vM (d:=d) (op:=op) (n:=0) (s:=nil0) (name:=name) (src:=src) (x:=a) (l:=[a,b]) (by simp)
 have hd2:=vM (d:=d) (op:=op) (n:=0) (s:=nil0) (name:=name) (src:=src) (x:=b) (l:=[a,b]) (by simp)
 simp only[List.length_append,List.length_cons,List.length_nil,EZ] at hf ⊢
 have hA:At W i (gV op::bK [40]::((ig name src a.op a.n (tokE d a)++(bK [58]::(tokE d b++[bK [41]])))++rest)):=by
  rw[List.append_assoc] at hA;exact hA
 have hB:At W (i+1+1) (kP name::dY [105,110]::kP src::(lW a.op a.n (tokE d a)++(bK [58]::(tokE d b++(bK [41]::rest))))):=by
  have:=hA.next.next
  rw[List.append_assoc] at this
  unfold ig at this
  rw[List.append_assoc] at this
  have e:(bK [58]::(tokE d b++[bK [41]]))++rest=bK [58]::(tokE d b++(bK [41]::rest)):=by simp
  rw[e] at this
  exact this
 have hC:=hB.next.next.next
 have hD:=hC.skip
 have hE:=hD.next.skip
 rw[Gf (by omega) (by omega) hA]
 unfold tY
 simp only
 rw[Lt (by omega) (by omega) hA]
 simp only
 rw[gq hA.next (show aj (bK [40]) (str [40])=true by decide +kernel),enter_at h0 (by omega),NG h1 h2 hB]
 simp only
 rw[JP IH hb hC (by omega) (kR (by decide +kernel)) (by show aj (bK [58]) _=false;decide +kernel) (by omega) (by omega),if_neg (by omega)]
 simp only
 rw[gq hD (show aj (bK [58]) (str [58])=true by decide +kernel),IA IHb hD.next (by omega) (kR (by decide +kernel)) (by omega) (by omega)]
 simp only
 rw[gq hE (show aj (bK [41]) (str [41])=true by decide +kernel),o9 h0 (by omega)]
 congr 2
 omega
theorem acp (d:Nat) {a:Ex} (IH:Claim d a 3):Claim (d+1) (tC 19 a) 3:=by
 intro W f g i k rest hA hf hg hn h0 hk
 have hl:¬ df (tC 19 a).op<3:=by show ¬ df 19<3;decide
 rw[je hl] at hA hf hg ⊢
 rw[if_neg hl] at hk
 unfold tC at *
 rw[Iz (.inl rfl)] at hA hf hg ⊢
 have hd:=vM (d:=d) (op:=19) (n:=0) (s:=nil0) (name:=nil0) (src:=nil0) (x:=a) (l:=[a]) (by simp)
 have e3:df 19=3:=by decide
 rw[e3] at hA hf hg ⊢
 simp only[List.length_cons] at hf hg ⊢
 obtain⟨g,rfl⟩:∃ m,g=m+1:=⟨g-1,by omega⟩
 have hA:At W i (gV 19::(eX 3 a.op (tokE d a)++rest)):=hA
 have h:=IH W f g (i+1) (k+1) rest hA.next (by omega) (by omega) hn (by omega) (by split<;>omega)
 unfold Reach at h ⊢
 rw[if_neg (by decide)] at h ⊢
 have h:notP W (ik W f) g (bV (i+1) (k+1))=(a,bV (i+1+(eX 3 a.op (tokE d a)).length) (k+1)):=h
 show notP W (ik W f) (g+1) (bV i k)=_
 unfold notP
 rw[jE hA (show aj (gV 19) (str [110,111,116])=true by decide +kernel),if_pos rfl]
 simp only
 rw[enter_at h0 (by omega),h]
 simp only
 rw[o9 h0 (by omega)]
 unfold tC
 congr 2
 omega
theorem acr (d:Nat) {a:Ex} (IH:Claim d a 7):Claim (d+1) (tC 20 a) 7:=by
 intro W f g i k rest hA hf hg hn h0 hk
 have hl:¬ df (tC 20 a).op<7:=by show ¬ df 20<7;decide
 rw[je hl] at hA hf hg ⊢
 rw[if_neg hl] at hk
 unfold tC at *
 rw[Iz (.inr rfl)] at hA hf hg ⊢
 have hd:=vM (d:=d) (op:=20) (n:=0) (s:=nil0) (name:=nil0) (src:=nil0) (x:=a) (l:=[a]) (by simp)
 have e3:df 20=7:=by decide
 rw[e3] at hA hf hg ⊢
 simp only[List.length_cons] at hf hg ⊢
 obtain⟨g,rfl⟩:∃ m,g=m+1:=⟨g-1,by omega⟩
 have hA:At W i (gV 20::(eX 7 a.op (tokE d a)++rest)):=hA
 have h:=IH W f g (i+1) (k+1) rest hA.next (by omega) (by omega) hn (by omega) (by split<;>omega)
 unfold Reach at h ⊢
 rw[if_neg (by decide)] at h ⊢
 have h:dG W (ik W f) g (bV (i+1) (k+1))=(a,bV (i+1+(eX 7 a.op (tokE d a)).length) (k+1)):=h
 show dG W (ik W f) (g+1) (bV i k)=_
 unfold dG
 rw[jE hA (show aj (gV 20) (str [45])=true by decide +kernel),if_pos rfl]
 simp only
 rw[enter_at h0 (by omega),h]
 simp only
 rw[o9 h0 (by omega)]
 unfold tC
 congr 2
 omega
theorem aeV {op:Int} (h1:6≤op) (h2:op≤18):UR (EX (df op)) (gV op)=op∧F9 (df op+1) (gV op)=true∧(ND (df op)∨df op=4):=by
 obtain rfl|rfl|rfl|rfl|rfl|rfl|rfl|rfl|rfl|rfl|rfl|rfl|rfl:op=6∨op=7∨op=8∨op=9∨op=10∨op=11∨op=12∨op=13∨op=14∨op=15∨op=16∨op=17∨op=18:=by omega
 all_goals decide +kernel
theorem aiB (L:Nat):∀ x∈EX L,x.2≠0:=by
 unfold EX
 repeat' split
 all_goals decide
theorem acs (d:Nat) {op:Int} {a b:Ex} (h1:6≤op) (h2:op≤18) (IHa:∀ L,1≤L→L≤8→Claim d a L) (IHb:∀ L,1≤L→L≤8→Claim d b L):Claim (d+1) (cO op a b) (df op):=by
 intro W f g i k rest hA hf hg hn h0 hk
 obtain⟨ho,hs,hch⟩:=aeV h1 h2
 have hl:¬ df (cO op a b).op<df op:=by show ¬ df op<df op;omega
 rw[je hl] at hA hf hg ⊢
 rw[if_neg hl] at hk
 have hd:=vM (d:=d) (op:=op) (n:=0) (s:=nil0) (name:=nil0) (src:=nil0) (x:=a) (l:=[a,b]) (by simp)
 have hd2:=vM (d:=d) (op:=op) (n:=0) (s:=nil0) (name:=nil0) (src:=nil0) (x:=b) (l:=[a,b]) (by simp)
 unfold cO at hA hf hg hk ⊢
 rw[NF h1 h2] at hA hf hg ⊢
 generalize df op=M at *
 have ne0:UR (EX M) (gV op)≠0:=by rw[ho];omega
 simp only[List.length_append,List.length_cons] at hf hg ⊢
 have hA:At W i (eX (M+if M=4 then 1 else 0) a.op (tokE d a)++(gV op::(eX (M+1) b.op (tokE d b)++rest))):=by
  rw[List.append_assoc] at hA;exact hA
 have hB:=hA.skip
 have hC:=hB.next
 have hl:=fuel_lt hA
 have hl2:=fuel_lt hC
 have hop:jH W (EX M) (bV (i+(eX (M+if M=4 then 1 else 0) a.op (tokE d a)).length) k)=(op,bV (i+(eX (M+if M=4 then 1 else 0) a.op (tokE d a)).length+1) k):=by
  rw[aeT hB (aiB M) ne0]
  show (UR (EX M) (gV op),_)=_
  rw[ho]
 rcases hch with hch|h4
 ·have hM4:¬ M=4:=by unfold ND at hch;omega
  have hM7:1≤M∧M≤6:=by unfold ND at hch;omega
  have en:nxt M=M+1:=by unfold nxt;rw[if_neg hM4]
  rw[en] at hn
  have e0:(M+if M=4 then 1 else 0)=M:=by rw[if_neg hM4];rfl
  rw[e0] at hA hB hC hf hg hl hl2 hop ⊢
  have hA1:=IHa M hM7.1 (by omega) W f g i k _ hA (by omega) (by omega) (by rw[en];exact kR hs) h0 (by split<;>omega)
  have hB1:=(IHb (M+1) (by omega) (by omega)).done (f:=f) (g:=W.fuel) hC (by omega) (by omega) hn h0 (by split<;>omega)
  unfold Reach at hA1 ⊢
  rw[if_pos hch] at hA1 ⊢
  obtain⟨F,hF,hA1⟩:=hA1
  have hF:W.fuel≤F+(i+(eX M a.op (tokE d a)).length-i):=hF
  obtain⟨F,rfl⟩:∃ m,F=m+1:=⟨F-1,by omega⟩
  refine⟨F,?_,?_⟩
  ·show W.fuel≤F+(i+_-i)
   omega
  ·rw[hA1,jq,hop]
   simp only
   rw[if_neg (by omega),hB1]
   have ee:i+(eX M a.op (tokE d a)).length+1+(eX (M+1) b.op (tokE d b)).length=i+((eX M a.op (tokE d a)).length+((eX (M+1) b.op (tokE d b)).length+1)):=by omega
   rw[ee]
   rfl
 ·have en:nxt M=4:=by unfold nxt;rw[if_pos h4]
  rw[en] at hn
  subst h4
  have e0:(4+if 4=4 then 1 else 0)=5:=rfl
  rw[e0] at hA hB hC hf hg hl hl2 hop ⊢
  simp only[Nat.reduceAdd] at hB hC hf hg hl hl2 hop ⊢
  have hA1:=(IHa 5 (by omega) (by omega)).done (f:=f) (g:=g) hA (by omega) (by omega) (kR hs) h0 (by split<;>omega)
  have hB1:=(IHb 5 (by omega) (by omega)).done (f:=f) (g:=g) hC (by omega) (by omega) (hn.mono (by omega)) h0 (by split<;>omega)
  unfold Reach
  rw[if_neg (by decide)]
  have hA1:sumP W (ik W f) (bV i k)=_:=hA1
  have hB1:sumP W (ik W f) _=_:=hB1
  have hop:jH W ji _=_:=hop
  show DK W (ik W f) (bV i k)=_
  unfold DK
  simp only
  rw[hA1]
  simp only
  rw[hop]
  simp only
  rw[if_neg (by omega),hB1]
  have ee:i+(eX 5 a.op (tokE d a)).length+1+(eX 5 b.op (tokE d b)).length=i+((eX 5 a.op (tokE d a)).length+((eX 5 b.op (tokE d b)).length+1)):=by omega
  rw[ee]
  rfl
theorem JQ:∀ (d:Nat) (e:Ex),aA d e=true→∀ L,1≤L→L≤8→Claim d e L:=by
 intro d
 induction d with
 | zero=>intro e h;cases h
 | succ d ih =>
  intro e h
  have hbase:Claim (d+1) e (df e.op):=by
   obtain⟨a1,a2,a3,a4,a5⟩:=UT d
   rcases pg h with ⟨n,_,rfl⟩|⟨s,_,rfl⟩|⟨n,hn,rfl⟩|⟨name,hf,rfl⟩|⟨s,name,hf,hs,rfl⟩|⟨op,a,b,h1,h2,ha,hb,rfl⟩|⟨op,a,h1,ha,rfl⟩|⟨name,src,a,h1,h2,ha,rfl⟩|⟨op,name,src,a,b,g1,g2,h1,h2,ha,hb,rfl⟩
   ·exact a1 n
   ·exact a2 s
   ·exact a3 n hn
   ·exact a4 name hf
   ·exact a5 s name hf hs
   ·exact acs d h1 h2 (ih a ha) (ih b hb)
   ·rcases h1 with rfl|rfl
    ·exact acp d (ih a ha 3 (by omega) (by omega))
    ·exact acr d (ih a ha 7 (by omega) (by omega))
   ·exact UU d h1 h2 ha (ih a ha 1 (by omega) (by omega))
   ·have e8:df (Ex.mk op 0 nil0 name src [a,b]).op=8:=by show df op=8;unfold df;(repeat' split)<;>omega
    rw[e8]
    exact X5 d g1 g2 h1 h2 ha (ih a ha 1 (by omega) (by omega)) (ih b hb 1 (by omega) (by omega))
  have hM:1≤df e.op∧df e.op≤8:=by unfold df;(repeat' split)<;>omega
  have h1:∀ L,1≤L→L≤df e.op→Claim (d+1) e L:=fun L hL1 hL2=>JO h hM.2 hbase (df e.op-L) L (by omega) hL1 (fun N _ h3=>by omega)
  intro L hL1 hL8
  rcases Nat.lt_or_ge (df e.op) L with hlt|hge
  ·have h8:Claim (d+1) e 8:=Rn h (by omega) (h1 1 (by omega) hM.1)
   exact JO h (Nat.le_refl 8) h8 (8-L) L (by omega) hL1 (fun N h2 _=>by omega)
  ·exact h1 L hL1 hge
end Go.Afx
namespace Go.Afx
open Go.RowKit
def lF (l:List (List Key)):List Key:=l.flatMap fun x=>bK [44]::x
def ku:List (List Key)→List Key
 | []=>[]
 | a::r=>a++lF r
def UW (d:Nat) (name src:ByteArray):List Ex→List Key
 | []=>[]
 | a::_=>ig name src a.op a.n (tokE d a)
def E5 (d:Nat) (x:ByteArray×Ex):List Key:=kP x.1::bK [61]::tokE d x.2
def aiC (d:Nat):List Ex→List Key
 | []=>[]
 | a::_=>tokE d a
def dF (d:Nat) (es:List Ex):List Key:=ku (es.map (tokE d))
def eu (f:St→List Key) (l:List St):List Key:=bK [123]::(l.flatMap f++[bK [125]])
def aiD (d:Nat) (op:Int) (name src:ByteArray) (cols:List ByteArray) (exprs:List Ex):List Key :=
 if op=1 then dY [108,101,116]::kP name::bK [61]::dF d exprs
 else if op=2 then dY [115,101,116]::kP name::bK [61]::dF d exprs
 else if op=3 then dY [105,110,115,101,114,116]::kP src::bK [40]::(dF d exprs++[bK [41]])
 else if op=8 then dY [101,109,105,116]::kP src::bK [40]::(dF d exprs++[bK [41]])
 else if op=4 then dY [117,112,100,97,116,101]::(UW d name src exprs++(dY [115,101,116]::ku ((cols.zip exprs.tail).map (E5 d))))
 else if op=5 then dY [100,101,108,101,116,101]::UW d name src exprs
 else if op=9 then dY [97,98,111,114,116]::dF d exprs
 else dY [114,101,112,108,121]::dF d exprs
def lg (n:Int):List Key:=if 0<n then [dY [108,105,109,105,116],(1,str (dU n),n)] else []
def dh:Nat→St→List Key
 | 0,_=>[]
 | d+1,x =>
  if x.op=6 then dY [102,111,114]::(UW d x.name x.src x.exprs++(lg x.n++eu (dh d) x.body))
  else if x.op=7 then dY [105,102]::(aiC d x.exprs++(eu (dh d) x.body++(if x.els=[] then [] else dY [101,108,115,101]::eu (dh d) x.els)))
  else aiD d x.op x.name x.src x.cols x.exprs++[bK [59]]
def Ro (k:Int):Key:=dY (jY k)
def uu (c:Co):List Key:=[kP c.name,Ro c.kind]
def UX (d:Nat) (p:Pr):List Key :=
 dY [112,114,111,99]::kP p.name::bK [40]::(ku (p.params.map uu)++(bK [41]::((if noS p.part then [] else [dY [111,110],kP p.part])++((if noS p.src then [] else [dY [102,114,111,109],kP p.src])++((if p.fuel=100 then [] else [dY [102,117,101,108],(1,str (dU p.fuel),p.fuel)])++eu (dh d) p.body)))))
theorem eF (k:Key) (r:List Key):dK (k::r)=k:=rfl
theorem str_inj {a b:List UInt8} (h:str a=str b):a=b:=by
 unfold str at h
 injection h with h
 exact(Array.mk.inj h)
theorem fU (a b:List UInt8):aj (dY a) (str b)=decide (a=b):=by
 unfold aj dY
 by_cases h:a=b
 ·subst h;simp
 ·have:str a≠str b:=fun e=>h (str_inj e)
  simp[this,h]
theorem xB {d:Nat} {e:Ex} (hb:aA d e=true) {W:aV} {i:Nat} {k:Int} {rest:List Key} (hA:At W i (tokE d e++rest)) (hn:pY 1 rest) (h0:0≤k) (hk:k+2*(dQ d e:Int)≤61):aZ W (bV i k)=(e,bV (i+(tokE d e).length) k):=by
 have:=fuel_lt hA
 exact IA (JQ d e hb 1 (by omega) (by omega)) hA (by omega) hn h0 hk
theorem X6 {d:Nat} {a:Ex} (hb:aA d a=true) {W:aV} {i:Nat} {k:Int} {rest:List Key} (hA:At W i (lW a.op a.n (tokE d a)++rest)) (hn:pY 1 rest) (hw:aj (dK rest) (str [119,104,101,114,101])=false) (h0:0≤k) (hk:k+2*(dQ d a:Int)≤61) :
  bG W (aZ W) (bV i k)=(a,bV (i+(lW a.op a.n (tokE d a)).length) k):=by
 have:=fuel_lt hA
 exact JP (JQ d a hb 1 (by omega) (by omega)) hb hA (by omega) hn hw h0 hk
theorem aeW {α:Type} {W:aV} {tk:α→List Key} {one:au→α×au} {k:Int} {P:List Key→Prop} (hP:∀ r,P (bK [44]::r)):∀ (xs:List α),(∀ x∈xs,∀ i r,At W i (tk x++r)→P r→one (bV i k)=(x,bV (i+(tk x).length) k))→∀ (f:Nat) (acc:List α) (i:Nat) (rest:List Key),xs.length≤f→At W i (lF (xs.map tk)++rest)→P rest→aj (dK rest) (str [44])=false→jC W one f acc (bV i k)=(acc++xs,bV (i+(lF (xs.map tk)).length) k):=by
 intro xs
 induction xs with
 | nil =>
  intro _ f acc i rest _ hA _ hc
  cases f with
  | zero=>simp[jC,lF]
  | succ f =>
   unfold jC
   rw[jw hA hc,if_neg Bool.false_ne_true]
   simp[lF]
 | cons x xs ih =>
  intro h f acc i rest hf hA hp hc
  obtain⟨f,rfl⟩:∃ m,f=m+1:=⟨f-1,by simp only[List.length_cons] at hf;omega⟩
  have e:lF ((x::xs).map tk)=bK [44]::(tk x++lF (xs.map tk)):=rfl
  rw[e] at hA ⊢
  have hA:At W i (bK [44]::(tk x++(lF (xs.map tk)++rest))):=by
   rw[← List.append_assoc];exact hA
  have hp2:P (lF (xs.map tk)++rest):=by
   cases xs with
   | nil=>exact hp
   | cons y ys=>exact hP _
  unfold jC
  rw[jE hA (show aj (bK [44]) (str [44])=true by decide +kernel),if_pos rfl]
  simp only
  rw[h x (by simp) _ _ hA.next hp2]
  simp only
  rw[ih (fun y hy=>h y (by simp[hy])) f (acc++[x]) _ rest (by simp only[List.length_cons] at hf;omega) hA.next.skip hp hc]
  simp only[List.length_cons,List.length_append,List.append_assoc,List.cons_append,List.nil_append]
  congr 2
  omega
theorem JR {α:Type} {W:aV} {tk:α→List Key} {one:au→α×au} {k:Int} {P:List Key→Prop} (hP:∀ r,P (bK [44]::r)) {xs:List α} (h0:xs≠[]) (h:∀ x∈xs,∀ i r,At W i (tk x++r)→P r→one (bV i k)=(x,bV (i+(tk x).length) k)) {i:Nat} {rest:List Key} (hA:At W i (ku (xs.map tk)++rest)) (hp:P rest) (hc:aj (dK rest) (str [44])=false):iE W one (bV i k)=(xs,bV (i+(ku (xs.map tk)).length) k):=by
 cases xs with
 | nil=>exact absurd rfl h0
 | cons x xs =>
  have e:ku ((x::xs).map tk)=tk x++lF (xs.map tk):=rfl
  rw[e] at hA ⊢
  rw[List.append_assoc] at hA
  have hp2:P (lF (xs.map tk)++rest):=by
   cases xs with
   | nil=>exact hp
   | cons y ys=>exact hP _
  have hl:xs.length≤W.fuel:=by
   have h1:=fuel_lt hA.skip
   have h2:∀ l:List (List Key),l.length≤(lF l).length:=by
    intro l
    induction l with
    | nil=>exact Nat.le_refl _
    | cons a r ih =>
     have:lF (a::r)=bK [44]::(a++lF r):=rfl
     rw[this]
     simp only[List.length_cons,List.length_append]
     omega
   have h3:=h2 (xs.map tk)
   rw[List.length_map] at h3
   omega
  unfold iE
  rw[h x (by simp) _ _ hA hp2]
  simp only
  rw[aeW hP xs (fun y hy=>h y (by simp[hy])) W.fuel [x] _ rest hl hA.skip hp hc]
  simp only[List.length_append]
  congr 2
  omega
theorem Rq {d:Nat} {es:List Ex} (h0:es≠[]) (hb:∀ e∈es,aA d e=true) {W:aV} {i:Nat} {k:Int} {rest:List Key} (hA:At W i (dF d es++rest)) (hn:pY 1 rest) (hc:aj (dK rest) (str [44])=false) (hk0:0≤k) (hk:∀ e∈es,k+2*(dQ d e:Int)≤61):fG W (bV i k)=(es,bV (i+(dF d es).length) k) :=
 JR (P:=pY 1) (fun _=>kR (by decide +kernel)) h0 (fun e he _ _ hA hn=>xB (hb e he) hA hn hk0 (hk e he)) hA hn hc
/- what a statement's first word says -/
section
variable {W:aV} {i:Nat} {k:Int} {rest:List Key}
theorem aiE (hA:At W i (dY [108,101,116]::rest)):dH W (bV i k)=iF W 1 (bV (i+1) k):=by unfold dH;simp[iR hA,eF,fU]
theorem aiF (hA:At W i (dY [115,101,116]::rest)):dH W (bV i k)=iF W 2 (bV (i+1) k):=by unfold dH;simp[iR hA,eF,fU]
theorem X7 (hA:At W i (dY [105,110,115,101,114,116]::rest)):dH W (bV i k)=oU W 3 (bV (i+1) k):=by unfold dH;simp[iR hA,eF,fU]
theorem aeX (hA:At W i (dY [101,109,105,116]::rest)):dH W (bV i k)=oU W 8 (bV (i+1) k):=by unfold dH;simp[iR hA,eF,fU]
theorem X8 (hA:At W i (dY [117,112,100,97,116,101]::rest)):dH W (bV i k)=jX W (bV (i+1) k):=by unfold dH;simp[iR hA,eF,fU]
theorem X9 (hA:At W i (dY [100,101,108,101,116,101]::rest)):dH W (bV i k)=(.mk 5 (bF W (bV (i+1) k)).1.1 (bF W (bV (i+1) k)).1.2 0 [] [(bG W (aZ W) (bF W (bV (i+1) k)).2).1] [] [],(bG W (aZ W) (bF W (bV (i+1) k)).2).2):=by unfold dH;simp[iR hA,eF,fU]
theorem acu (hA:At W i (dY [97,98,111,114,116]::rest)):dH W (bV i k)=(.mk 9 nil0 nil0 0 [] [(aZ W (bV (i+1) k)).1] [] [],(aZ W (bV (i+1) k)).2):=by unfold dH;simp[iR hA,eF,fU]
theorem acv (hA:At W i (dY [114,101,112,108,121]::rest)):dH W (bV i k)=(.mk 10 nil0 nil0 0 [] (fG W (bV (i+1) k)).1 [] [],(fG W (bV (i+1) k)).2):=by unfold dH;simp[iR hA,eF,fU]
theorem aiG {B:au→List St×au} (hA:At W i (dY [102,111,114]::rest)):jD W B (bV i k)=MZ W B (bV (i+1) k):=by unfold jD;simp[iR hA,eF,fU]
theorem alB {B:au→List St×au} (hA:At W i (dY [105,102]::rest)):jD W B (bV i k)=ifP W B (bV (i+1) k):=by unfold jD;simp[iR hA,eF,fU]
end
end Go.Afx
namespace Go.Afx
open Go.RowKit
theorem aiH {l:List Nat} {x:Nat} (h:x∈l):x≤l.sum:=by
 induction l with
 | nil=>cases h
 | cons a r ih =>
  rw[List.sum_cons]
  rcases List.mem_cons.1 h with rfl|h
  ·omega
  ·have:=ih h;omega
theorem Lu {l:List ByteArray} (h:lN l=true):∀ c∈l,aJ c=true:=by
 rw[kV] at h
 exact fun c hc=>List.all_eq_true.1 h c hc
theorem Ad {d:Nat} {x:St} (h:bD (d+1) x=true) :
  (∃ op name e,(op=1∨op=2)∧aJ name=true∧aA d e=true∧x=.mk op name nil0 0 [] [e] [] []) ∨
  (∃ op src es,(op=3∨op=8)∧aJ src=true∧es≠[]∧(∀ e∈es,aA d e=true)∧x=.mk op nil0 src 0 [] es [] []) ∨
  (∃ name src cols a es,aJ name=true∧aJ src=true∧cols≠[]∧cols.length=es.length∧(∀ c∈cols,aJ c=true)∧aA d a=true∧(∀ e∈es,aA d e=true)∧x=.mk 4 name src 0 cols (a::es) [] []) ∨
  (∃ name src a,aJ name=true∧aJ src=true∧aA d a=true∧x=.mk 5 name src 0 [] [a] [] []) ∨
  (∃ name src n a body,aJ name=true∧aJ src=true∧0≤n∧n≤1000∧aA d a=true∧(∀ b∈body,bD d b=true)∧x=.mk 6 name src n [] [a] body []) ∨
  (∃ a body els,aA d a=true∧(∀ b∈body,bD d b=true)∧(∀ b∈els,bD d b=true)∧x=.mk 7 nil0 nil0 0 [] [a] body els) ∨
  (∃ a,aA d a=true∧x=.mk 9 nil0 nil0 0 [] [a] [] []) ∨
  (∃ es,es≠[]∧(∀ e∈es,aA d e=true)∧x=.mk 10 nil0 nil0 0 [] es [] []):=by
 obtain⟨op,name,src,n,cols,es,body,els⟩:=x
 rw[bD] at h
 simp only[TR,St.op,St.name,St.src,St.n,St.cols,St.exprs,St.body,St.els,Bool.and_eq_true,List.all_eq_true] at h
 obtain⟨⟨⟨hs,he⟩,hb⟩,hl⟩:=h
 have one:∀ l:List Ex,(1:Int)≤l.length→(l.length:Int)≤1→∃ a,l=[a]:=fun l h1 h2=>List.length_eq_one_iff.1 (by omega)
 have ne:∀ l:List Ex,(1:Int)≤l.length→l≠[]:=fun l h1 h2=>by subst h2;simp at h1
 have UY:∀ l:List ByteArray,l.length=0→l=[]:=fun l h=>List.eq_nil_of_length_eq_zero h
 have E8:∀ l:List St,l.length=0→l=[]:=fun l h=>List.eq_nil_of_length_eq_zero h
 unfold dm at hs
 by_cases h1:op=1∨op=2
 ·rw[if_pos h1] at hs
  simp only[fF,Bool.and_eq_true,decide_eq_true_eq,if_true,if_false,Bool.false_eq_true,Bool.false_or] at hs
  obtain⟨⟨⟨⟨⟨⟨a1,a2⟩,a3⟩,rfl⟩,a5,a6⟩,a7⟩,a8⟩:=hs
  obtain⟨e,rfl⟩:=one es a5 a6
  rw[dX a2,UY _ a3,E8 _ a7,E8 _ a8]
  exact .inl ⟨op,name,e,h1,a1,he e (by simp),rfl⟩
 rw[if_neg h1] at hs
 by_cases h2:op=3∨op=8
 ·rw[if_pos h2] at hs
  simp only[fF,Bool.and_eq_true,decide_eq_true_eq,if_true,if_false,Bool.false_eq_true,Bool.false_or] at hs
  obtain⟨⟨⟨⟨⟨⟨a1,a2⟩,a3⟩,rfl⟩,a5,a6⟩,a7⟩,a8⟩:=hs
  rw[dX a1,UY _ a3,E8 _ a7,E8 _ a8]
  exact .inr (.inl ⟨op,src,es,h2,a2,ne _ a5,he,rfl⟩)
 rw[if_neg h2] at hs
 by_cases h3:op=4
 ·subst h3
  rw[if_pos rfl] at hs
  simp only[fF,Bool.and_eq_true,decide_eq_true_eq,if_true,if_false,Bool.false_eq_true,Bool.false_or] at hs
  obtain⟨⟨⟨⟨⟨⟨a1,a2⟩,⟨⟨a3,_⟩,a31⟩,_⟩,rfl⟩,a5,a6⟩,a7⟩,a8⟩:=hs
  rw[E8 _ a7,E8 _ a8]
  cases es with
  | nil=>simp only[List.length_nil] at a5;omega
  | cons a es =>
   simp only[List.length_cons] at a5 a6
   exact .inr (.inr (.inl ⟨name,src,cols,a,es,a1,a2,fun h=>(by subst h;simp at a3),by omega,Lu a31,he a (by simp),fun e h=>he e (by simp[h]),rfl⟩))
 rw[if_neg h3] at hs
 by_cases h4:op=5
 ·subst h4
  rw[if_pos rfl] at hs
  simp only[fF,Bool.and_eq_true,decide_eq_true_eq,if_true,if_false,Bool.false_eq_true,Bool.false_or] at hs
  obtain⟨⟨⟨⟨⟨⟨a1,a2⟩,a3⟩,rfl⟩,a5,a6⟩,a7⟩,a8⟩:=hs
  obtain⟨e,rfl⟩:=one es a5 a6
  rw[UY _ a3,E8 _ a7,E8 _ a8]
  exact .inr (.inr (.inr (.inl ⟨name,src,e,a1,a2,he e (by simp),rfl⟩)))
 rw[if_neg h4] at hs
 by_cases h5:op=6
 ·subst h5
  rw[if_pos rfl] at hs
  simp only[fF,Bool.and_eq_true,decide_eq_true_eq,if_true,if_false,Bool.false_eq_true,Bool.false_or,Bool.true_or,and_true] at hs
  obtain⟨⟨⟨⟨⟨a1,a2⟩,a3⟩,a4,a41⟩,a5,a6⟩,a8⟩:=hs
  obtain⟨e,rfl⟩:=one es a5 a6
  rw[UY _ a3,E8 _ a8]
  exact .inr (.inr (.inr (.inr (.inl ⟨name,src,n,e,body,a1,a2,a4,a41,he e (by simp),hb,rfl⟩))))
 rw[if_neg h5] at hs
 by_cases h6:op=7
 ·subst h6
  rw[if_pos rfl] at hs
  simp only[fF,Bool.and_eq_true,decide_eq_true_eq,if_false,Bool.false_eq_true,Bool.true_or,and_true] at hs
  obtain⟨⟨⟨⟨a1,a2⟩,a3⟩,rfl⟩,a5,a6⟩:=hs
  obtain⟨e,rfl⟩:=one es a5 a6
  rw[UY _ a3,dX a1,dX a2]
  exact .inr (.inr (.inr (.inr (.inr (.inl ⟨e,body,els,he e (by simp),hb,hl,rfl⟩)))))
 rw[if_neg h6] at hs
 by_cases h7:op=9
 ·subst h7
  rw[if_pos rfl] at hs
  simp only[fF,Bool.and_eq_true,decide_eq_true_eq,if_false,Bool.false_eq_true,Bool.false_or] at hs
  obtain⟨⟨⟨⟨⟨⟨a1,a2⟩,a3⟩,rfl⟩,a5,a6⟩,a7⟩,a8⟩:=hs
  obtain⟨e,rfl⟩:=one es a5 a6
  rw[UY _ a3,E8 _ a7,E8 _ a8,dX a1,dX a2]
  exact .inr (.inr (.inr (.inr (.inr (.inr (.inl ⟨e,he e (by simp),rfl⟩))))))
 rw[if_neg h7] at hs
 by_cases h8:op=10
 ·subst h8
  rw[if_pos rfl] at hs
  simp only[fF,Bool.and_eq_true,decide_eq_true_eq,if_false,Bool.false_eq_true,Bool.false_or] at hs
  obtain⟨⟨⟨⟨⟨⟨a1,a2⟩,a3⟩,rfl⟩,a5,a6⟩,a7⟩,a8⟩:=hs
  rw[UY _ a3,E8 _ a7,E8 _ a8,dX a1,dX a2]
  exact .inr (.inr (.inr (.inr (.inr (.inr (.inr ⟨es,ne _ a5,he,rfl⟩))))))
 ·rw[if_neg h8] at hs
  cases hs
section
variable {d:Nat} {op n:Int} {name src:ByteArray} {cols:List ByteArray} {es:List Ex} {body els:List St}
theorem pq {e:Ex} (h:e∈es):dQ d e+1≤dN (d+1) (.mk op name src n cols es body els):=by
 have:=Ej (List.mem_map.2 ⟨e,h,rfl⟩:dQ d e∈es.map (dQ d))
 rw[dN]
 show _≤1+max (max (iJ (es.map (dQ d))) (iJ (body.map (dN d)))) (iJ (els.map (dN d)))
 omega
theorem Rt {x:St} (h:x∈body):dN d x+1≤dN (d+1) (.mk op name src n cols es body els):=by
 have:=Ej (List.mem_map.2 ⟨x,h,rfl⟩:dN d x∈body.map (dN d))
 rw[dN]
 show _≤1+max (max (iJ (es.map (dQ d))) (iJ (body.map (dN d)))) (iJ (els.map (dN d)))
 omega
theorem aeY {x:St} (h:x∈els):dN d x+1≤dN (d+1) (.mk op name src n cols es body els):=by
 have:=Ej (List.mem_map.2 ⟨x,h,rfl⟩:dN d x∈els.map (dN d))
 rw[dN]
 show _≤1+max (max (iJ (es.map (dQ d))) (iJ (body.map (dN d)))) (iJ (els.map (dN d)))
 omega
theorem NH:1≤dN (d+1) (.mk op name src n cols es body els):=by rw[dN];omega
end
def FQ (d:Nat) (x:St):Prop :=
 ∀ (W:aV) (f i:Nat) (k:Int) (rest:List Key),At W i (dh d x++rest)→(dh d x).length≤f→aj (dK rest) (str [101,108,115,101])=false→0≤k→k+2*(dN d x:Int)≤61→jD W (gG W f) (bV i k)=(x,bV (i+(dh d x).length) k)
def We (d:Nat) (x:St):Prop:=∃ a r,dh d x=dY a::r∧a≠[101,108,115,101]∧a≠[125]
theorem acw {d:Nat} {W:aV} {f:Nat} {k:Int} {rest:List Key} (h0:0≤k):∀ (xs:List St),(∀ x∈xs,FQ d x∧We d x∧(dh d x).length≤f∧k+2*(dN d x:Int)≤61)→∀ (F:Nat) (acc:List St) (i:Nat),xs.length≤F→At W i (xs.flatMap (dh d)++(bK [125]::rest))→jc W (jD W (gG W f)) F acc (bV i k)=(acc++xs,bV (i+(xs.flatMap (dh d)).length) k):=by
 intro xs
 induction xs with
 | nil =>
  intro _ F acc i _ hA
  cases F with
  | zero=>simp[jc]
  | succ F =>
   unfold jc
   rw[mX hA,show aj (dK ([].flatMap (dh d)++bK [125]::rest)) (str [125])=true from (by decide +kernel:aj (bK [125]) (str [125])=true),if_neg (by simp)]
   simp
 | cons x xs ih =>
  intro h F acc i hF hA
  obtain⟨F,rfl⟩:∃ m,F=m+1:=⟨F-1,by simp only[List.length_cons] at hF;omega⟩
  obtain⟨hc,⟨a,r,hr,_,ha2⟩,hf,hk⟩:=h x (by simp)
  rw[List.flatMap_cons,List.append_assoc] at hA
  have hno:jO W (bV i k) (str [125])=false:=by
   rw[mX hA,hr]
   show aj (dY a) (str [125])=false
   rw[fU]
   simp[ha2]
  have hel:aj (dK (xs.flatMap (dh d)++(bK [125]::rest))) (str [101,108,115,101])=false:=by
   cases xs with
   | nil=>show aj (bK [125]) _=false;decide +kernel
   | cons y ys =>
    obtain⟨_,⟨b,r2,hr2,hb,_⟩,_⟩:=h y (by simp)
    rw[List.flatMap_cons,hr2]
    show aj (dY b) _=false
    rw[fU]
    simp[hb]
  unfold jc
  rw[hno,if_pos (by rfl),hc W f i k _ hA hf hel h0 hk]
  simp only
  rw[ih (fun y hy=>h y (by simp[hy])) F (acc++[x]) _ (by simp only[List.length_cons] at hF;omega) hA.skip,List.flatMap_cons,List.length_append]
  simp only[List.append_assoc,List.cons_append,List.nil_append]
  congr 2
  omega
theorem count_le {d:Nat} (xs:List St) (h:∀ x∈xs,We d x):xs.length≤(xs.flatMap (dh d)).length:=by
 induction xs with
 | nil=>exact Nat.zero_le _
 | cons x xs ih =>
  obtain⟨a,r,hr,_⟩:=h x (by simp)
  have:=ih (fun y hy=>h y (by simp[hy]))
  rw[List.flatMap_cons,List.length_append,hr,List.length_cons,List.length_cons]
  omega
theorem En {d:Nat} {W:aV} {f i:Nat} {k:Int} {rest:List Key} {xs:List St} (h:∀ x∈xs,FQ d x∧We d x∧k+1+2*(dN d x:Int)≤61) (h0:0≤k) (hk:k<60) (hA:At W i (eu (dh d) xs++rest)) (hf:(eu (dh d) xs).length≤f):gG W f (bV i k)=(xs,bV (i+(eu (dh d) xs).length) k):=by
 unfold eu at *
 simp only[List.length_cons,List.length_append,List.length_nil] at hf ⊢
 obtain⟨f,rfl⟩:∃ m,f=m+1:=⟨f-1,by omega⟩
 have hA:At W i (bK [123]::(xs.flatMap (dh d)++(bK [125]::rest))):=by
  have e:(bK [123]::(xs.flatMap (dh d)++[bK [125]]))++rest=bK [123]::(xs.flatMap (dh d)++(bK [125]::rest)):=by simp
  rw[e] at hA
  exact hA
 have hlen:∀ x∈xs,(dh d x).length≤(xs.flatMap (dh d)).length:=fun x hx=>by
  rw[List.length_flatMap]
  exact aiH (List.mem_map.2 ⟨x,hx,rfl⟩)
 have hcount:=count_le xs (fun x hx=>(h x hx).2.1)
 have hl:=fuel_lt hA.next
 unfold gG
 simp only
 rw[gq hA (show aj (bK [123]) (str [123])=true by decide +kernel),enter_at h0 hk,acw (d:=d) (rest:=rest) (by omega) xs (fun x hx=>⟨(h x hx).1,(h x hx).2.1,by have:=hlen x hx;omega,(h x hx).2.2⟩) W.fuel [] (i+1) (by omega) hA.next]
 simp only
 rw[gq hA.next.skip (show aj (bK [125]) (str [125])=true by decide +kernel),o9 h0 hk]
 simp only[List.nil_append]
 congr 2
 omega
end Go.Afx
