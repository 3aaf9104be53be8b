/- Parts of this proof, one behind the other: RtI, RtJ, RtK. -/
import Derived.Test.YtjjfkhbajidmdaaGreatDoorPb42
import Derived.Test.YtjjfkhbajidmdaaGreatDoorPb41
set_option maxRecDepth 1000000
set_option maxHeartbeats 40000000
namespace Go.Afx
open Go.RowKit
section
variable {d:Nat} {W:aV} {i:Nat} {k:Int} {rest:List Key}
theorem mZ (e:Ex):dF d [e]=tokE d e:=by unfold dF ku lF;simp
theorem LC {op:Int} {name:ByteArray} {e:Ex} (hf:aJ name=true) (hb:aA d e=true) (hA:At W i (kP name::bK [61]::(tokE d e++rest))) (hn:pY 1 rest) (h0:0≤k) (hk:k+2*(dQ d e:Int)≤61):iF W op (bV i k)=(.mk op name nil0 0 [] [e] [] [],bV (i+1+1+(tokE d e).length) k):=by
 unfold iF
 simp only
 rw[kQ hA (jF hf)]
 simp only
 rw[gq hA.next (show aj (bK [61]) (str [61])=true by decide +kernel),xB hb hA.next.next hn h0 hk]
theorem Wh {op:Int} {src:ByteArray} {es:List Ex} (hf:aJ src=true) (hne:es≠[]) (hb:∀ e∈es,aA d e=true) (hA:At W i (kP src::bK [40]::(dF d es++(bK [41]::rest)))) (h0:0≤k) (h1:k<60) (hk:∀ e∈es,k+1+2*(dQ d e:Int)≤61):oU W op (bV i k)=(.mk op nil0 src 0 [] es [] [],bV (i+1+1+(dF d es).length+1) k):=by
 unfold oU
 simp only
 rw[kQ hA (jF hf)]
 simp only
 rw[gq hA.next (show aj (bK [40]) (str [40])=true by decide +kernel),enter_at h0 h1,Rq hne hb hA.next.next (kR (by decide +kernel)) (by show aj (bK [41]) _=false;decide +kernel) (by omega) hk]
 simp only
 rw[gq hA.next.next.skip (show aj (bK [41]) (str [41])=true by decide +kernel),o9 h0 h1]
theorem aiI {x:ByteArray×Ex} (hf:aJ x.1=true) (hb:aA d x.2=true) (hA:At W i (E5 d x++rest)) (hn:pY 1 rest) (h0:0≤k) (hk:k+2*(dQ d x.2:Int)≤61):kY W (bV i k)=(x,bV (i+(E5 d x).length) k):=by
 obtain⟨c,e⟩:=x
 have hA:At W i (kP c::bK [61]::(tokE d e++rest)):=hA
 unfold kY E5
 simp only
 rw[kQ hA (jF hf)]
 simp only
 rw[gq hA.next (show aj (bK [61]) (str [61])=true by decide +kernel),xB hb hA.next.next hn h0 hk]
 simp only[List.length_cons]
 congr 2
 omega
theorem Af {name src:ByteArray} {a:Ex} (h1:aJ name=true) (h2:aJ src=true) (hb:aA d a=true) (hA:At W i (ig name src a.op a.n (tokE d a)++rest)) (hn:pY 1 rest) (hw:aj (dK rest) (str [119,104,101,114,101])=false) (h0:0≤k) (hk:k+2*(dQ d a:Int)≤61) :
  (bF W (bV i k)).1=(name,src)∧bG W (aZ W) (bF W (bV i k)).2=(a,bV (i+(ig name src a.op a.n (tokE d a)).length) k):=by
 unfold ig at hA
 rw[List.append_assoc] at hA
 have hA:At W i (kP name::dY [105,110]::kP src::(lW a.op a.n (tokE d a)++rest)):=hA
 rw[NG h1 h2 hA]
 refine⟨rfl,?_⟩
 simp only
 rw[X6 hb hA.next.next.next hn hw h0 hk,EZ]
 congr 2
 omega
theorem Ya {name src:ByteArray} {cols:List ByteArray} {a:Ex} {es:List Ex} (h1:aJ name=true) (h2:aJ src=true) (hne:cols≠[]) (hl:cols.length=es.length) (hc:∀ c∈cols,aJ c=true) (ha:aA d a=true) (hb:∀ e∈es,aA d e=true)
  (hA:At W i (ig name src a.op a.n (tokE d a)++(dY [115,101,116]::(ku ((cols.zip es).map (E5 d))++rest)))) (hn:pY 1 rest) (hcm:aj (dK rest) (str [44])=false) (h0:0≤k) (hka:k+2*(dQ d a:Int)≤61) (hk:∀ e∈es,k+2*(dQ d e:Int)≤61) :
  jX W (bV i k)=(.mk 4 name src 0 cols (a::es) [] [],bV (i+(ig name src a.op a.n (tokE d a)).length+1+(ku ((cols.zip es).map (E5 d))).length) k):=by
 obtain⟨r1,r2⟩:=Af (k:=k) h1 h2 ha hA (kR (by decide +kernel)) (by show aj (dY [115,101,116]) _=false;decide +kernel) h0 hka
 have hz:cols.zip es≠[]:=by
  intro h
  have:=congrArg List.length h
  rw[List.length_zip,List.length_nil] at this
  exact hne (List.eq_nil_of_length_eq_zero (by omega))
 have hB:=hA.skip
 unfold jX
 simp only
 rw[r1,r2]
 simp only
 rw[gq hB (show aj (dY [115,101,116]) (str [115,101,116])=true by decide +kernel),JR (P:=pY 1) (fun _=>kR (by decide +kernel)) hz (fun x hx _ _ hA hn=>aiI (d:=d) (hc _ (List.of_mem_zip hx).1) (hb _ (List.of_mem_zip hx).2) hA hn h0 (hk _ (List.of_mem_zip hx).2)) hB.next hn hcm]
 simp only
 rw[List.map_fst_zip (by omega),List.map_snd_zip (by omega)]
theorem acx {n:Int} (h1:0≤n) (h2:n≤1000) (hA:At W i (lg n++(bK [123]::rest))):(if (ay W (str [108,105,109,105,116]) (bV i k)).1 then kE W (ay W (str [108,105,109,105,116]) (bV i k)).2 else (0,bV i k))=(n,bV (i+(lg n).length) k):=by
 unfold lg at *
 by_cases h:0<n
 ·rw[if_pos h] at hA ⊢
  have hA:At W i (dY [108,105,109,105,116]::(1,str (dU n),n)::(bK [123]::rest)):=hA
  rw[jE hA (show aj (dY [108,105,109,105,116]) (str [108,105,109,105,116])=true by decide +kernel),if_pos rfl]
  unfold kE
  have k2:(W.look (bV (i+1) k).at_).n=n:=UQ hA.next
  simp only
  rw[k2,if_neg (by omega),ack hA.next]
  simp only[List.length_cons,List.length_nil]
  rw[show min n 1001=n by omega]
 ·rw[if_neg h] at hA ⊢
  rw[jw hA (show aj (bK [123]) (str [108,105,109,105,116])=false by decide +kernel),if_neg Bool.false_ne_true]
  simp only[List.length_nil]
  rw[show n=0 by omega]
  rfl
theorem UZ {n:Int}:F9 1 (dK (lg n++(bK [123]::rest)))=true∧aj (dK (lg n++(bK [123]::rest))) (str [119,104,101,114,101])=false:=by
 unfold lg
 split
 ·exact⟨(by decide +kernel:F9 1 (dY [108,105,109,105,116])=true),(by decide +kernel:aj (dY [108,105,109,105,116]) (str [119,104,101,114,101])=false)⟩
 ·exact⟨(by decide +kernel:F9 1 (bK [123])=true),(by decide +kernel:aj (bK [123]) (str [119,104,101,114,101])=false)⟩
theorem LD {ks:List Key} (h:F9 1 (dK ks)=true):pY 1 ks:=by
 cases ks with
 | nil=>exact aco 1
 | cons x r=>exact kR h
theorem acy {B:au→List St×au} {a:List UInt8} (hA:At W i (dY a::rest)) (h1:a≠[102,111,114]) (h2:a≠[105,102]):jD W B (bV i k)=((dH W (bV i k)).1,ak W [str [59]] (dH W (bV i k)).2):=by
 unfold jD
 rw[jw hA (by rw[eF,fU];simp[h1]),if_neg Bool.false_ne_true,jw hA (by rw[eF,fU];simp[h2]),if_neg Bool.false_ne_true]
end
theorem yc {d:Nat} {x:St} (h:bD d x=true):We d x:=by
 cases d with
 | zero=>cases h
 | succ d =>
  rcases Ad h with ⟨op,name,e,ho,_,_,rfl⟩|⟨op,src,es,ho,_,_,_,rfl⟩|⟨name,src,cols,a,es,_,_,_,_,_,_,_,rfl⟩|⟨name,src,a,_,_,_,rfl⟩|⟨name,src,n,a,body,_,_,_,_,_,_,rfl⟩|⟨a,body,els,_,_,_,rfl⟩|⟨a,_,rfl⟩|⟨es,_,_,rfl⟩
  ·rcases ho with rfl|rfl
   ·exact⟨_,_,rfl,by decide,by decide⟩
   ·exact⟨_,_,rfl,by decide,by decide⟩
  ·rcases ho with rfl|rfl
   ·exact⟨_,_,rfl,by decide,by decide⟩
   ·exact⟨_,_,rfl,by decide,by decide⟩
  all_goals exact⟨_,_,rfl,by decide,by decide⟩
theorem uf {d:Nat} {x:St} {a:List UInt8} {T:List Key} (hT:dh d x=(dY a::T)++[bK [59]]) (h1:a≠[102,111,114]) (h2:a≠[105,102]) (h:∀ (W:aV) (i:Nat) (k:Int) (rest:List Key),At W i (dY a::(T++(bK [59]::rest)))→0≤k→k+2*(dN d x:Int)≤61→dH W (bV i k)=(x,bV (i+1+T.length) k)):FQ d x:=by
 intro W f i k rest hA hf he h0 hk
 rw[hT] at hA ⊢
 have hA:At W i (dY a::(T++(bK [59]::rest))):=by
  rw[List.append_assoc] at hA;exact hA
 rw[acy hA h1 h2,h W i k rest hA h0 hk]
 simp only
 rw[gq hA.next.skip (show aj (bK [59]) (str [59])=true by decide +kernel)]
 simp only[List.length_append,List.length_cons,List.length_nil]
 congr 2
 omega
theorem Yb:∀ (d:Nat) (x:St),bD d x=true→FQ d x:=by
 intro d
 induction d with
 | zero=>intro x h;cases h
 | succ d ih =>
  intro x h
  have stop:∀ r,pY 1 (bK [59]::r):=fun r=>kR (by decide +kernel)
  have comma:∀ r,aj (dK (bK [59]::r)) (str [44])=false:=fun r=>(by decide +kernel:aj (bK [59]) (str [44])=false)
  have whr:∀ r,aj (dK (bK [59]::r)) (str [119,104,101,114,101])=false:=fun r=>(by decide +kernel:aj (bK [59]) (str [119,104,101,114,101])=false)
  rcases Ad h with ⟨op,name,e,ho,hf,hb,rfl⟩|⟨op,src,es,ho,hf,hne,hb,rfl⟩|⟨name,src,cols,a,es,h1,h2,hne,hl,hc,ha,hb,rfl⟩|⟨name,src,a,h1,h2,ha,rfl⟩|⟨name,src,n,a,body,h1,h2,h3,h4,ha,hb,rfl⟩|⟨a,body,els,ha,hb,hel,rfl⟩|⟨a,ha,rfl⟩|⟨es,hne,hb,rfl⟩
  ·have hd:=fun k (hk:k+2*(dN (d+1) (.mk op name nil0 0 [] [e] [] []):Int)≤61)=>(by have:=pq (d:=d) (op:=op) (n:=0) (name:=name) (src:=nil0) (cols:=[]) (es:=[e]) (body:=[]) (els:=[]) (e:=e) (by simp);omega:k+2*(dQ d e:Int)≤61)
   rcases ho with rfl|rfl
   ·refine uf (a:=[108,101,116]) (T:=kP name::bK [61]::dF d [e]) rfl (by decide) (by decide) fun W i k rest hA h0 hk=>?_
    rw[mZ] at hA ⊢
    rw[aiE hA,LC hf hb hA.next (stop _) h0 (hd k hk)]
    simp only[List.length_cons]
    congr 2
    omega
   ·refine uf (a:=[115,101,116]) (T:=kP name::bK [61]::dF d [e]) rfl (by decide) (by decide) fun W i k rest hA h0 hk=>?_
    rw[mZ] at hA ⊢
    rw[aiF hA,LC hf hb hA.next (stop _) h0 (hd k hk)]
    simp only[List.length_cons]
    congr 2
    omega
  ·have hd:=fun k (hk:k+2*(dN (d+1) (.mk op nil0 src 0 [] es [] []):Int)≤61) e (he:e∈es)=>(by have:=pq (d:=d) (op:=op) (n:=0) (name:=nil0) (src:=src) (cols:=[]) (body:=[]) (els:=[]) he;omega:k+1+2*(dQ d e:Int)≤61)
   have hp:=NH (d:=d) (op:=op) (n:=0) (name:=nil0) (src:=src) (cols:=[]) (es:=es) (body:=[]) (els:=[])
   rcases ho with rfl|rfl
   ·refine uf (a:=[105,110,115,101,114,116]) (T:=kP src::bK [40]::(dF d es++[bK [41]])) rfl (by decide) (by decide) fun W i k rest hA h0 hk=>?_
    have hA:At W i (dY [105,110,115,101,114,116]::kP src::bK [40]::(dF d es++(bK [41]::(bK [59]::rest)))):=by
     have e:(kP src::bK [40]::(dF d es++[bK [41]]))++(bK [59]::rest)=kP src::bK [40]::(dF d es++(bK [41]::(bK [59]::rest))):=by simp
     rw[e] at hA
     exact hA
    rw[X7 hA,Wh hf hne hb hA.next h0 (by omega) (hd k hk)]
    simp only[List.length_cons,List.length_append,List.length_nil]
    congr 2
    omega
   ·refine uf (a:=[101,109,105,116]) (T:=kP src::bK [40]::(dF d es++[bK [41]])) rfl (by decide) (by decide) fun W i k rest hA h0 hk=>?_
    have hA:At W i (dY [101,109,105,116]::kP src::bK [40]::(dF d es++(bK [41]::(bK [59]::rest)))):=by
     have e:(kP src::bK [40]::(dF d es++[bK [41]]))++(bK [59]::rest)=kP src::bK [40]::(dF d es++(bK [41]::(bK [59]::rest))):=by simp
     rw[e] at hA
     exact hA
    rw[aeX hA,Wh hf hne hb hA.next h0 (by omega) (hd k hk)]
    simp only[List.length_cons,List.length_append,List.length_nil]
    congr 2
    omega
  ·have hd:=fun k (hk:k+2*(dN (d+1) (.mk 4 name src 0 cols (a::es) [] []):Int)≤61) e (he:e∈a::es)=>(by have:=pq (d:=d) (op:=4) (n:=0) (name:=name) (src:=src) (cols:=cols) (body:=[]) (els:=[]) he;omega:k+2*(dQ d e:Int)≤61)
   refine uf (a:=[117,112,100,97,116,101]) (T:=ig name src a.op a.n (tokE d a)++(dY [115,101,116]::ku ((cols.zip es).map (E5 d)))) rfl (by decide) (by decide) fun W i k rest hA h0 hk=>?_
   have hA:At W i (dY [117,112,100,97,116,101]::(ig name src a.op a.n (tokE d a)++(dY [115,101,116]::(ku ((cols.zip es).map (E5 d))++(bK [59]::rest))))):=by
    rw[List.append_assoc] at hA;exact hA
   rw[X8 hA,Ya h1 h2 hne hl hc ha hb hA.next (stop _) (comma _) h0 (hd k hk a (by simp)) (fun e he=>hd k hk e (by simp[he]))]
   simp only[List.length_cons,List.length_append]
   congr 2
   omega
  ·refine uf (a:=[100,101,108,101,116,101]) (T:=ig name src a.op a.n (tokE d a)) rfl (by decide) (by decide) fun W i k rest hA h0 hk=>?_
   have hd:=pq (d:=d) (op:=5) (n:=0) (name:=name) (src:=src) (cols:=[]) (es:=[a]) (body:=[]) (els:=[]) (e:=a) (by simp)
   obtain⟨r1,r2⟩:=Af (k:=k) h1 h2 ha hA.next (stop _) (whr _) h0 (by omega)
   rw[X9 hA,r1,r2]
  ·intro W f i k rest hA hf he h0 hk
   have hd:=pq (d:=d) (op:=6) (n:=n) (name:=name) (src:=src) (cols:=[]) (es:=[a]) (body:=body) (els:=[]) (e:=a) (by simp)
   have hp:=NH (d:=d) (op:=6) (n:=n) (name:=name) (src:=src) (cols:=[]) (es:=[a]) (body:=body) (els:=[])
   have hq:=fun x (hx:x∈body)=>Rt (d:=d) (op:=6) (n:=n) (name:=name) (src:=src) (cols:=[]) (es:=[a]) (els:=[]) hx
   have e:dh (d+1) (.mk 6 name src n [] [a] body [])=dY [102,111,114]::(ig name src a.op a.n (tokE d a)++(lg n++eu (dh d) body)):=rfl
   rw[e] at hA hf ⊢
   simp only[List.length_cons,List.length_append] at hf ⊢
   have hA:At W i (dY [102,111,114]::(ig name src a.op a.n (tokE d a)++(lg n++(eu (dh d) body++rest)))):=by
    have e2:(dY [102,111,114]::(ig name src a.op a.n (tokE d a)++(lg n++eu (dh d) body)))++rest=dY [102,111,114]::(ig name src a.op a.n (tokE d a)++(lg n++(eu (dh d) body++rest))):=by simp
    rw[e2] at hA
    exact hA
   obtain⟨l1,l2⟩:=UZ (n:=n) (rest:=body.flatMap (dh d)++[bK [125]]++rest)
   obtain⟨r1,r2⟩:=Af (k:=k) h1 h2 ha hA.next (LD l1) l2 h0 (by omega)
   rw[aiG hA]
   unfold MZ
   simp only
   rw[r1,r2]
   simp only
   rw[acx h3 h4 hA.next.skip]
   simp only
   rw[En (fun x hx=>⟨ih x (hb x hx),yc (hb x hx),by have:=hq x hx;omega⟩) h0 (by omega) hA.next.skip.skip (by omega)]
   simp only
   congr 2
   omega
  ·intro W f i k rest hA hf he h0 hk
   have hd:=pq (d:=d) (op:=7) (n:=0) (name:=nil0) (src:=nil0) (cols:=[]) (es:=[a]) (body:=body) (els:=els) (e:=a) (by simp)
   have hp:=NH (d:=d) (op:=7) (n:=0) (name:=nil0) (src:=nil0) (cols:=[]) (es:=[a]) (body:=body) (els:=els)
   have hq:=fun x (hx:x∈body)=>Rt (d:=d) (op:=7) (n:=0) (name:=nil0) (src:=nil0) (cols:=[]) (es:=[a]) (els:=els) hx
   have hq2:=fun x (hx:x∈els)=>aeY (d:=d) (op:=7) (n:=0) (name:=nil0) (src:=nil0) (cols:=[]) (es:=[a]) (body:=body) hx
   have e:dh (d+1) (.mk 7 nil0 nil0 0 [] [a] body els)=dY [105,102]::(tokE d a++(eu (dh d) body++(if els=[] then [] else dY [101,108,115,101]::eu (dh d) els))):=rfl
   rw[e] at hA hf ⊢
   simp only[List.length_cons,List.length_append] at hf ⊢
   have hA:At W i (dY [105,102]::(tokE d a++(eu (dh d) body++((if els=[] then [] else dY [101,108,115,101]::eu (dh d) els)++rest)))):=by
    have e2:∀ z,(dY [105,102]::(tokE d a++(eu (dh d) body++z)))++rest=dY [105,102]::(tokE d a++(eu (dh d) body++(z++rest))):=fun z=>by simp
    rw[e2] at hA
    exact hA
   have hB:=hA.next.skip
   have hC:=hB.skip
   rw[alB hA]
   unfold ifP
   simp only
   rw[xB ha hA.next (LD (by show F9 1 (bK [123])=true;decide +kernel)) h0 (by omega)]
   simp only
   rw[En (fun x hx=>⟨ih x (hb x hx),yc (hb x hx),by have:=hq x hx;omega⟩) h0 (by omega) hB (by omega)]
   simp only
   cases els with
   | nil =>
    rw[if_pos rfl] at hC ⊢
    rw[jw hC he,if_neg Bool.false_ne_true]
    simp only[List.length_nil]
    congr 2
    omega
   | cons y ys =>
    rw[if_neg (List.cons_ne_nil y ys)] at hC hf ⊢
    simp only[List.length_cons] at hf ⊢
    have hC:At W _ (dY [101,108,115,101]::(eu (dh d) (y::ys)++rest)):=hC
    rw[jE hC (show aj (dY [101,108,115,101]) (str [101,108,115,101])=true by decide +kernel),if_pos rfl]
    simp only
    rw[En (fun x hx=>⟨ih x (hel x hx),yc (hel x hx),by have:=hq2 x hx;omega⟩) h0 (by omega) hC.next (by omega)]
    simp only
    congr 2
    omega
  ·refine uf (a:=[97,98,111,114,116]) (T:=dF d [a]) rfl (by decide) (by decide) fun W i k rest hA h0 hk=>?_
   have hd:=pq (d:=d) (op:=9) (n:=0) (name:=nil0) (src:=nil0) (cols:=[]) (es:=[a]) (body:=[]) (els:=[]) (e:=a) (by simp)
   rw[mZ] at hA ⊢
   rw[acu hA,xB ha hA.next (stop _) h0 (by omega)]
  ·refine uf (a:=[114,101,112,108,121]) (T:=dF d es) rfl (by decide) (by decide) fun W i k rest hA h0 hk=>?_
   have hd:=fun e (he:e∈es)=>pq (d:=d) (op:=10) (n:=0) (name:=nil0) (src:=nil0) (cols:=[]) (body:=[]) (els:=[]) he
   rw[acv hA,Rq hne hb hA.next (stop _) (comma _) h0 (fun e he=>by have:=hd e he;omega)]
end Go.Afx
namespace Go.Afx
open Go.RowKit
theorem acz {W:aV} {i:Nat} {k:Int} {rest:List Key} {c:Co} (hf:aJ c.name=true) (hk:1≤c.kind∧c.kind≤3) (hA:At W i (uu c++rest)):dO W (bV i k)=(c,bV (i+(uu c).length) k):=by
 obtain⟨name,kind⟩:=c
 simp only at hf hk
 have hA:At W i (kP name::Ro kind::rest):=hA
 have hB:=hA.next
 have e:vT W (bV (i+1) k)=(kind,bV (i+1+1) k):=by
  unfold Ro at hB
  unfold vT
  obtain rfl|rfl|rfl:kind=1∨kind=2∨kind=3:=by omega
  ·simp[iR hB,eF,fU,jY]
  ·simp[iR hB,eF,fU,jY]
  ·simp[iR hB,eF,fU,jY]
 unfold dO
 simp only
 rw[kQ hA (jF hf)]
 simp only
 rw[e]
 rfl
def onK (b:ByteArray):List Key:=if noS b then [] else [dY [111,110],kP b]
def Eo (b:ByteArray):List Key:=if noS b then [] else [dY [102,114,111,109],kP b]
def sH (n:Int):List Key:=if n=100 then [] else [dY [102,117,101,108],(1,str (dU n),n)]
theorem ae0 {W:aV} {i:Nat} {k n:Int} {rest:List Key} (h:1≤n∧n≤2000) (hA:At W i (sH n++(bK [123]::rest))):uM W (bV i k)=(n,bV (i+(sH n).length) k):=by
 unfold sH at *
 unfold uM
 by_cases h1:n=100
 ·rw[if_pos h1] at hA ⊢
  rw[jw hA (show aj (bK [123]) (str [102,117,101,108])=false by decide +kernel),if_neg Bool.false_ne_true,h1]
  rfl
 ·rw[if_neg h1] at hA ⊢
  have hA:At W i (dY [102,117,101,108]::(1,str (dU n),n)::(bK [123]::rest)):=hA
  rw[jE hA (show aj (dY [102,117,101,108]) (str [102,117,101,108])=true by decide +kernel),if_pos rfl]
  simp only
  rw[ack hA.next,show min n 2001=n by omega]
  rfl
theorem Yc {n:Int} {rest:List Key}:aj (dK (sH n++(bK [123]::rest))) (str [111,110])=false∧aj (dK (sH n++(bK [123]::rest))) (str [102,114,111,109])=false:=by
 unfold sH
 split
 ·exact(by decide +kernel:aj (bK [123]) (str [111,110])=false∧aj (bK [123]) (str [102,114,111,109])=false)
 ·exact(by decide +kernel:aj (dY [102,117,101,108]) (str [111,110])=false∧aj (dY [102,117,101,108]) (str [102,114,111,109])=false)
theorem ae1 {W:aV} {i:Nat} {k n:Int} {rest:List Key} {part src:ByteArray} (h:(part=nil0∧src=nil0)∨(aJ part=true∧src=nil0)∨(part=nil0∧aJ src=true)) (hA:At W i (onK part++(Eo src++(sH n++(bK [123]::rest))))) :
  (if (ay W (str [111,110]) (bV i k)).1 then aS W (ay W (str [111,110]) (bV i k)).2 else (nil0,bV i k)).1=part ∧
  (if (ay W (str [111,110]) (bV i k)).1 then (nil0,(if (ay W (str [111,110]) (bV i k)).1 then aS W (ay W (str [111,110]) (bV i k)).2 else (nil0,bV i k)).2) else if (ay W (str [102,114,111,109]) (bV i k)).1 then aS W (ay W (str [102,114,111,109]) (bV i k)).2 else (nil0,bV i k))=(src,bV (i+(onK part).length+(Eo src).length) k):=by
 obtain⟨f1,f2⟩:=Yc (n:=n) (rest:=rest)
 have hn:noS nil0=true:=by decide +kernel
 have hfree:∀ b:ByteArray,aJ b=true→noS b=false:=fun b hb=>by
  cases h:noS b with
  | false=>rfl
  | true=>rw[dX h] at hb;revert hb;decide +kernel
 unfold onK Eo at *
 rcases h with ⟨rfl,rfl⟩|⟨hp,rfl⟩|⟨rfl,hs⟩
 ·rw[if_pos hn] at hA ⊢
  rw[jw hA f1,jw hA f2]
  exact⟨rfl,rfl⟩
 ·rw[hfree _ hp,if_pos hn,if_neg Bool.false_ne_true] at hA ⊢
  have hA:At W i (dY [111,110]::kP part::(sH n++(bK [123]::rest))):=hA
  rw[jE hA (show aj (dY [111,110]) (str [111,110])=true by decide +kernel),if_pos rfl,kQ hA.next (jF hp)]
  exact⟨rfl,rfl⟩
 ·rw[hfree _ hs,if_pos hn,if_neg Bool.false_ne_true] at hA ⊢
  have hA:At W i (dY [102,114,111,109]::kP src::(sH n++(bK [123]::rest))):=hA
  rw[jw hA (show aj (dY [102,114,111,109]) (str [111,110])=false by decide +kernel),if_neg Bool.false_ne_true,jE hA (show aj (dY [102,114,111,109]) (str [102,114,111,109])=true by decide +kernel),if_pos rfl,kQ hA.next (jF hs)]
  exact⟨rfl,rfl⟩
theorem Gg {p:Pr} (h:zM p=true):aJ p.name=true∧(∀ c∈p.params,aJ c.name=true∧1≤c.kind∧c.kind≤3)∧(1≤p.fuel∧p.fuel≤2000)∧((p.part=nil0∧p.src=nil0)∨(aJ p.part=true∧p.src=nil0)∨(p.part=nil0∧aJ p.src=true)):=by
 unfold zM rW at h
 simp only[Bool.and_eq_true,decide_eq_true_eq,List.all_eq_true] at h
 obtain⟨⟨⟨⟨⟨⟨h1,h2⟩,_⟩,h4⟩,_⟩,h6⟩,h7⟩:=h
 have hc:∀ c∈p.params,aJ c.name=true:=fun c hc=>Lu h4 _ (List.mem_map.2 ⟨c,hc,rfl⟩)
 refine⟨h2,fun c hm=>⟨hc c hm,?_⟩,h6,?_⟩
 ·have:=h1 c hm
  unfold FP at this
  simp only[Bool.and_eq_true,decide_eq_true_eq] at this
  exact this
 ·cases hs:noS p.src with
  | true =>
   rw[hs,if_pos rfl] at h7
   simp only[Bool.or_eq_true,List.any_eq_true,List.mem_map,decide_eq_true_eq] at h7
   rcases h7 with h7|⟨_,⟨c,hm,rfl⟩,h8⟩
   ·exact .inl ⟨dX h7,dX hs⟩
   ·exact .inr (.inl ⟨by rw[← h8];exact hc c hm,dX hs⟩)
  | false =>
   rw[hs,if_neg Bool.false_ne_true] at h7
   simp only[Bool.and_eq_true] at h7
   exact .inr (.inr ⟨dX h7.2,h7.1.1⟩)
theorem Yd {d:Nat} {p:Pr} (hh:zM p=true) (hb:∀ x∈p.body,bD d x=true) (hk:∀ x∈p.body,dN d x≤30) {W:aV} (hA:At W 0 (UX d p++[])):jT W au.start=(p,bV (UX d p).length 0):=by
 obtain⟨h1,h2,h3,h4⟩:=Gg hh
 obtain⟨name,src,part,fuel,params,body⟩:=p
 simp only at h1 h2 h3 h4 hb hk
 have e:UX d ⟨name,src,part,fuel,params,body⟩=dY [112,114,111,99]::kP name::bK [40]::(ku (params.map uu)++(bK [41]::(onK part++(Eo src++(sH fuel++eu (dh d) body))))):=rfl
 rw[e] at hA ⊢
 have hA:At W 0 (dY [112,114,111,99]::kP name::bK [40]::(ku (params.map uu)++(bK [41]::(onK part++(Eo src++(sH fuel++(eu (dh d) body++[]))))))):=by
  rw[List.append_nil] at hA ⊢
  exact hA
 have hB:=hA.next.next.next
 have hC:=hB.skip.next
 have hD:=hC.skip.skip
 have hE:=hD.skip
 have hl:=fuel_lt hE
 have s0:au.start=bV 0 0:=rfl
 have hlist:(if jO W (bV (0+1+1+1) (0+1)) (str [41]) then ([],bV (0+1+1+1) (0+1)) else iE W (dO W) (bV (0+1+1+1) (0+1)))=(params,bV (0+1+1+1+(ku (params.map uu)).length) (0+1)):=by
  cases params with
  | nil =>
   rw[mX hB,show aj (dK (ku (List.map uu [])++bK [41]::(onK part++(Eo src++(sH fuel++(eu (dh d) body++[])))))) (str [41])=true from (by decide +kernel:aj (bK [41]) (str [41])=true),if_pos rfl]
   rfl
  | cons c cs =>
   have hno:jO W (bV (0+1+1+1) (0+1)) (str [41])=false:=by
    rw[mX hB]
    exact mY (h2 c (by simp)).1 (by decide +kernel)
   rw[hno,if_neg Bool.false_ne_true]
   exact JR (P:=fun _=>True) (fun _=>trivial) (List.cons_ne_nil c cs) (fun x hx _ _ hA _=>acz (h2 x hx).1 (h2 x hx).2 hA) hB trivial (by show aj (bK [41]) _=false;decide +kernel)
 obtain⟨q1,q2⟩:=ae1 (k:=0) h4 hC
 unfold jT
 rw[s0]
 simp only
 rw[gq hA (show aj (dY [112,114,111,99]) (str [112,114,111,99])=true by decide +kernel),kQ hA.next (jF h1)]
 simp only
 rw[gq hA.next.next (show aj (bK [40]) (str [40])=true by decide +kernel),enter_at (by omega) (by omega),hlist]
 simp only
 rw[gq hB.skip (show aj (bK [41]) (str [41])=true by decide +kernel),o9 (by omega) (by omega),q1,q2]
 simp only
 rw[ae0 h3 hD]
 simp only
 unfold zS
 rw[En (fun x hx=>⟨Yb d x (hb x hx),yc (hb x hx),by have:=hk x hx;omega⟩) (by omega) (by omega) hE (by omega)]
 simp only[List.length_cons,List.length_append]
 congr 2
 omega
end Go.Afx
namespace Go.Proofs.YtjjfkhbajidmdaaGreatDoor
open Go.RowKit Go.Afx
def ae2 (c:UInt8):Bool:=decide (c=32)||decide (c=10)||decide (c=40)||decide (c=41)||decide (c=44)||decide (c=46)||decide (c=58)||decide (c=59)||decide (c=123)||decide (c=125)
def Bd (R:List UInt8):Prop:=∀ c,R.head?=some c→ae2 c=true
theorem aU {c:UInt8} (h:ae2 c=true) (R:List UInt8):Bd (c::R):=fun d hd=>by cases hd;exact h
theorem Fa {c:UInt8} (h:ae2 c=true):lexB c=false∧c.toNat≠39∧c≠61∧c≠47:=by
 unfold ae2 at h
 simp only[Bool.or_eq_true,decide_eq_true_eq] at h
 rcases h with ((((((((rfl|rfl)|rfl)|rfl)|rfl)|rfl)|rfl)|rfl)|rfl)|rfl
 all_goals exact⟨by decide,by decide,by decide,by decide⟩
theorem bg {c:UInt8} (hc:QW c=true) {R:List UInt8} {ks:List Key} (h:kZ R ks):kZ (c::R) ks:=by
 unfold kZ at *
 have e:blk false (c::R)=blk false R+1:=by
  rw[blk,if_pos hc,Nat.add_comm]
 rw[e,List.drop_succ_cons]
 exact h
theorem LG {n:Nat} {R:List UInt8} {ks:List Key} (h:kZ R ks):kZ (List.replicate n 32++R) ks:=by
 induction n with
 | zero=>exact h
 | succ n ih =>
  rw[List.replicate_succ,List.cons_append]
  exact bg (by decide) ih
theorem Ep {t R:List UInt8} {ks:List Key} {x:Nx} (hx:jZ (t++R)=some x) (hl:x.len=t.length) (hb:∃ c r,t++R=c::r∧QW c=false∧¬ (c.toNat=47∧r.head?=some 47)) (h:kZ R ks):kZ (t++R) (aix x::ks):=by
 obtain⟨c,r,he,h1,h2⟩:=hb
 have e:blk false (t++R)=0:=by
  rw[he,blk,if_neg (by rw[h1];decide),if_neg h2]
 unfold kZ
 rw[e,List.drop_zero]
 refine .cons (by rw[he];exact List.cons_ne_nil _ _) hx ?_
 rw[hl,List.drop_left]
 exact h
theorem Wi {t R:List UInt8} (ht:∀ c∈t,lexB c=true) (hR:Bd R):(t++R).takeWhile lexB=t:=by
 induction t with
 | nil =>
  cases R with
  | nil=>rfl
  | cons c r=>rw[List.nil_append,List.takeWhile_cons,(Fa (hR c rfl)).1];rfl
 | cons a t ih =>
  rw[List.cons_append,List.takeWhile_cons,ht a (by simp),if_pos rfl,ih (fun c hc=>ht c (by simp[hc]))]
theorem JS {c:UInt8} (h:uD c=true):lexB c=true:=by
 unfold uD ni at h
 unfold lexB
 simp only[Bool.or_eq_true,Bool.and_eq_true,decide_eq_true_eq] at *
 rcases h with (h|h)|h
 ·exact .inl (.inl (.inl h))
 ·exact .inl (.inr h)
 ·exact .inr h
theorem Es {c:UInt8} (h:lexB c=true):QW c=false∧c.toNat≠47:=by
 unfold lexB at h
 unfold QW
 simp only[Bool.or_eq_true,Bool.and_eq_true,decide_eq_true_eq] at h
 simp
 omega
theorem Ru (b:ByteArray):str b.data.toList=b:=rfl
theorem iT {b:ByteArray} (hn:dV b=true) {R:List UInt8} {ks:List Key} (hR:Bd R) (h:kZ R ks):kZ (b.data.toList++R) (kP b::ks):=by
 have hn2:=hn
 unfold dV at hn2
 cases hd:b.data.toList with
 | nil=>rw[hd] at hn2;cases hn2
 | cons c r =>
  rw[hd] at hn2
  simp only[Bool.and_eq_true,decide_eq_true_eq,List.all_eq_true] at hn2
  obtain⟨⟨_,h2⟩,h3⟩:=hn2
  have hall:∀ a∈c::r,lexB a=true:=fun a ha=>by
   rcases List.mem_cons.1 ha with rfl|ha
   ·exact JS (by unfold uD;rw[h2];rfl)
   ·exact JS (h3 a ha)
  have hc:=hall c (by simp)
  have hdg:wB c=false:=by
   unfold ni at h2
   unfold wB
   simp only[Bool.and_eq_true,decide_eq_true_eq] at h2
   simp
   omega
  have e:jZ ((c::r)++R)=some ⟨3,c::r,0,(c::r).length⟩:=by
   rw[List.cons_append,zY,hc,if_pos rfl]
   unfold pI
   rw[← List.cons_append,Wi hall hR]
   rw[if_neg (by simp[hdg])]
   rw[show dV (str (c::r))=true by rw[← hd,Ru];exact hn,if_pos rfl]
  have:=Ep e rfl ⟨c,r++R,rfl,(Es hc).1,fun h=>(Es hc).2 h.1⟩ h
  have ek:aix (⟨3,c::r,0,(c::r).length⟩:Nx)=kP b:=by
   show (3,str (c::r),0)=(3,b,0)
   rw[← hd,Ru]
  rw[ek] at this
  exact this
theorem jL {t:List UInt8} (hn:dV (str t)=true) {R:List UInt8} {ks:List Key} (hR:Bd R) (h:kZ R ks):kZ (t++R) (dY t::ks):=iT hn hR h
theorem NI {g:List UInt8} (hg:g∈iK) {R:List UInt8} {ks:List Key} (hR:∀ c,R.head?=some c→c≠61∧c≠47) (h:kZ R ks):kZ (g++R) (bK g::ks):=by
 have e:jZ (g++R)=some ⟨0,g,0,g.length⟩∧∃ c r,g++R=c::r∧QW c=false∧¬ (c.toNat=47∧r.head?=some 47):=by
  cases R with
  | nil =>
   simp only[iK,List.mem_cons,List.not_mem_nil,or_false] at hg
   rcases hg with rfl|rfl|rfl|rfl|rfl|rfl|rfl|rfl|rfl|rfl|rfl|rfl|rfl|rfl|rfl|rfl|rfl|rfl|rfl|rfl|rfl
   all_goals exact⟨rfl,_,_,rfl,by decide,by decide⟩
  | cons a r =>
   obtain⟨h1,h2⟩:=hR a rfl
   have h1':¬ (61:UInt8)=a:=fun h=>h1 h.symm
   have h2':¬ a=47:=h2
   simp only[iK,List.mem_cons,List.not_mem_nil,or_false] at hg
   rcases hg with rfl|rfl|rfl|rfl|rfl|rfl|rfl|rfl|rfl|rfl|rfl|rfl|rfl|rfl|rfl|rfl|rfl|rfl|rfl|rfl|rfl
   all_goals exact⟨by simp[jZ,lexB,F7,iK,List.isPrefixOf,h1'],_,_,rfl,by decide,by simp[h2']⟩
 exact Ep e.1 rfl e.2 h
theorem ae3 {R:List UInt8} (h:Bd R):∀ c,R.head?=some c→c≠61∧c≠47:=fun c hc=>by
 obtain⟨_,_,h1,h2⟩:=Fa (h c hc)
 exact⟨h1,h2⟩
/- numbers -/
theorem aiJ {k:Nat} (h:k<10):(UInt8.ofNat (48+k)).toNat=48+k:=by
 rw[UInt8.toNat_ofNat']
 omega
theorem Ye:∀ (k n:Nat),n<10 ^ k→vY (Du n)=n∧(∀ c∈Du n,wB c=true)∧(0<n→∃ c r,Du n=c::r∧c≠48):=by
  intro k
  induction k with
  | zero => intro n h;obtain rfl:n=0:=by simpa using h
            rw[mM]
            exact⟨rfl,fun c hc=>(by cases hc),fun h=>(by omega)⟩
  | succ k ih =>
    intro n h
    rcases Nat.eq_zero_or_pos n with rfl|hp
    · rw[mM]
      exact⟨rfl,fun c hc=>(by cases hc),fun h=>(by omega)⟩
    · obtain⟨h1,h2,h3⟩:=ih (n / 10) (by rw[Nat.pow_succ] at h;omega)
      have hd:=aiJ (Nat.mod_lt n (by omega:0<10))
      rw[wK hp]
      refine⟨?_,fun c hc=>?_,fun _=>?_⟩
      · rw[Ld,h1,hd];omega
      · rcases List.mem_append.1 hc with hc|hc
        · exact h2 c hc
        · obtain rfl:=List.mem_singleton.1 hc
          unfold wB
          rw[hd]
          simp
          omega
      · rcases Nat.eq_zero_or_pos (n / 10) with h0|h0
        · rw[h0,mM]
          refine⟨_,_,rfl,fun e=>?_⟩
          have:=congrArg UInt8.toNat e
          rw[hd] at this
          have e48:(48:UInt8).toNat=48:=rfl
          rw[e48] at this
          omega
        · obtain⟨c,r,hr,hc⟩:=h3 h0
          exact⟨c,_,by rw[hr];rfl,hc⟩
theorem JU {c:UInt8} (h:wB c=true):lexB c=true:=by
 unfold wB at h
 unfold lexB
 simp only[Bool.or_eq_true,Bool.and_eq_true,decide_eq_true_eq] at *
 exact .inl (.inr h)
theorem Rw {n:Int} (h0:0≤n) (h1:n≤9223372036854775807):(∀ c∈dU n,wB c=true)∧(∃ c r,dU n=c::r)∧sG (dU n)=some n.toNat:=by
  unfold dU
  by_cases h:n=0
  · subst h
    rw[if_pos rfl]
    exact⟨fun c hc=>by obtain rfl:=List.mem_singleton.1 hc;decide,⟨_,_,rfl⟩,by decide +kernel⟩
  · rw[if_neg h]
    obtain ⟨g1, g2, g3⟩ := Ye 19 n.toNat (by have:(10:Nat) ^ 19=10000000000000000000:=by decide
                                             omega)
    obtain⟨c,r,hr,hc⟩:=g3 (by omega)
    refine⟨g2,⟨c,r,hr⟩,?_⟩
    unfold sG
    rw[g1,if_neg ?_,if_pos (by omega)]
    rintro(⟨h2,_⟩|h2)
    · rw[hr] at h2
      exact hc (Option.some.inj h2)
    · rw[List.all_eq_true.2 g2] at h2;cases h2
theorem U0 {n:Int} (h0:0≤n) (h1:n≤9223372036854775807) {R:List UInt8} {ks:List Key} (hR:Bd R) (h:kZ R ks):kZ (dU n++R) ((1,str (dU n),n)::ks):=by
 obtain⟨g1,⟨c,r,hr⟩,g3⟩:=Rw h0 h1
 have hc:=g1 c (by rw[hr];simp)
 have e:jZ (dU n++R)=some ⟨1,dU n,n,(dU n).length⟩:=by
  have ht:=Wi (fun c hc=>JU (g1 c hc)) hR
  generalize hT:dU n=T at *
  subst hr
  rw[List.cons_append,zY,JU hc,if_pos rfl]
  unfold pI
  rw[← List.cons_append,ht,if_pos (by simp[hc]),g3]
  show some (⟨1,c::r,((n.toNat:Nat):Int),(c::r).length⟩:Nx)=_
  rw[Int.toNat_of_nonneg h0]
 exact Ep e rfl ⟨c,r++R,by rw[hr];rfl,(Es (JU hc)).1,fun h=>(Es (JU hc)).2 h.1⟩ h
/- texts -/
theorem ae4 {R:List UInt8} (hR:R.head?≠some 39):∀ (s acc:List UInt8) (i:Nat),(∀ c∈s,c≠10)→quo (Ai s++(39::R)) acc i=some (acc++s,i+(Ai s).length+1):=by
 intro s
 induction s with
 | nil =>
  intro acc i _
  show quo (39::R) acc i=_
  rw[((Nv (c:=39) (r:=R) (acc:=acc) (i:=i)).2.2 rfl).2 hR]
  simp[Ai]
 | cons c s ih =>
  intro acc i h
  have hs:=fun d hd=>h d (List.mem_cons_of_mem c hd)
  by_cases hc:c=39
  ·subst hc
   have e:Ai (39::s)=39::39::Ai s:=rfl
   rw[e]
   show quo (39::(39::(Ai s++(39::R)))) acc i=_
   rw[((Nv (c:=39) (r:=39::(Ai s++(39::R))) (acc:=acc) (i:=i)).2.2 rfl).1 rfl]
   show quo (Ai s++(39::R)) (acc++[39]) (i+2)=_
   rw[ih _ _ hs]
   simp only[List.append_assoc,List.cons_append,List.nil_append,List.length_cons]
   congr 2
   omega
  ·have e:Ai (c::s)=c::Ai s:=by unfold Ai;rw[List.flatMap_cons,if_neg hc];rfl
   rw[e]
   have h10:c.toNat≠10:=fun e=>h c (by simp) (UInt8.toNat_inj.1 e)
   have h39:c.toNat≠39:=fun e=>hc (UInt8.toNat_inj.1 e)
   rw[List.cons_append,Nv.2.1 h10 h39,ih _ _ hs]
   simp only[List.append_assoc,List.cons_append,List.nil_append,List.length_cons]
   congr 2
   omega
theorem acA {s:ByteArray} (hs:s.size≤200) (hn:s.data.toList.any (·==10)=false) {R:List UInt8} {ks:List Key} (hR:Bd R) (h:kZ R ks):kZ (iH s++R) ((2,s,0)::ks):=by
 have hh:R.head?≠some 39:=fun e=>(Fa (hR 39 e)).2.1 rfl
 have hn2:∀ c∈s.data.toList,c≠10:=fun c hc e=>by
  have:=List.any_eq_false.1 hn c hc
  simp[e] at this
 have e0:iH s++R=39::(Ai s.data.toList++(39::R)):=by unfold iH;simp
 have hq:=ae4 hh s.data.toList [] 1 hn2
 have hsz:s.data.toList.length=s.size:=zq s
 have e:jZ (iH s++R)=some ⟨2,s.data.toList,0,1+(Ai s.data.toList).length+1⟩:=by
  rw[e0,zY,if_neg (by decide),if_pos (by decide)]
  unfold lV
  rw[List.drop_succ_cons,List.drop_zero,hq]
  simp only[List.nil_append]
  rw[if_pos (by omega)]
 exact Ep e (by unfold iH;simp only[List.length_append,List.length_cons,List.length_nil]) ⟨39,_,e0,by decide,fun h=>absurd h.1 (by decide)⟩ h
end Go.Proofs.YtjjfkhbajidmdaaGreatDoor
