/- Parts of this proof, one behind the other: LexA, LexB, LexC. -/
import Derived.Test.YtjjfkhbajidmdaaGreatDoorPb37
import Derived.Test.YtjjfkhbajidmdaaGreatDoorPb23
import Derived.Test.YtjjfkhbajidmdaaGreatDoorShelfP
import Derived.Lib.IndexBytes
import Derived.Test.YtjjfkhbajidmdaaGreatDoorPb3
import Derived.Deep.Cut
set_option maxRecDepth 1000000
set_option maxHeartbeats 40000000
namespace Go.Proofs.YtjjfkhbajidmdaaGreatDoor
open Go.RowKit Go.Afx
theorem F8 (c:UInt8) (w:World):Calls Tryz.prog 117 #[.int .u8 (c.toNat:Int)] w fun x w'=>x=.returned (.bool (lexB c))∧w=w':=by
 go_enter Tryz.func117,Tryz.ntmps117
 go_wp2
 all_goals
  go_ret
  refine⟨aI ?_,rfl⟩
  rw[Bool.eq_iff_iff]
  simp[lexB]
  omega
theorem ext_list (s:ByteArray) (k:Nat):(s.extract k s.size).data.toList=s.data.toList.drop k:=by
 simp only[ByteArray.data_extract,Array.toList_extract,List.extract_eq_take_drop]
 exact List.take_of_length_le (by simp)
theorem zq (s:ByteArray):s.data.toList.length=s.size:=by simp
theorem drop_at (s:ByteArray) (k:Nat) (h:k<s.size):s.data.toList.drop k=s[k]::s.data.toList.drop (k+1):=by
 have h2:k<s.data.toList.length:=by simpa using h
 rw[List.drop_eq_getElem_cons h2]
 rfl
theorem alj (c:UInt8):((c.toNat:Int)).toNat.toUInt8=c:=by simp
theorem aic (c:UInt8):decide (0≤Lib.indexByte [32,9,10] c)=QW c:=by
 have h:∀ a b:UInt8,(a==b)=decide (b.toNat=a.toNat):=fun a b=>by
  rw[Bool.eq_iff_iff]
  simp only[beq_iff_eq,decide_eq_true_eq]
  exact⟨fun e=>by rw[e],fun e=>(UInt8.toNat_inj.1 e).symm⟩
 simp only[Lib.indexByte,h,QW]
 rcases Classical.em (c.toNat=32) with h1|h1
 ·simp[h1]
 ·rcases Classical.em (c.toNat=9) with h2|h2
  ·simp[h2]
  ·rcases Classical.em (c.toNat=10) with h3|h3
   ·simp[h3]
   ·simp[h1,h2,h3]
theorem aeD:∀ (r:List UInt8),(Lib.indexByte r 10 = -1→blk true r=r.length)∧(∀ j:Nat,Lib.indexByte r 10=j→j<r.length∧blk true r=j+blk false (r.drop j)):=by
 intro r
 induction r with
 | nil=>exact⟨fun _=>rfl,fun j h=>by simp[Lib.indexByte] at h⟩
 | cons c r ih =>
  rcases Classical.em (c.toNat=10) with hc|hc
  ·have e:c=10:=UInt8.toNat_inj.1 hc
   subst e
   refine⟨fun h=>by simp[Lib.indexByte] at h,fun j h=>?_⟩
   simp[Lib.indexByte] at h
   have hj:j=0:=by omega
   subst hj
   refine⟨by simp,?_⟩
   simp[blk,QW]
  ·have e:(c==10)=false:=by
    rw[beq_eq_false_iff_ne]
    intro e;subst e;exact hc rfl
   have hb:blk true (c::r)=1+blk true r:=by simp[blk,hc]
   simp only[Lib.indexByte,e,Bool.false_eq_true,if_false,hb]
   have hge:=Lib.indexByte_ge r 10
   rcases Classical.em (Lib.indexByte r 10 = -1) with h1|h1
   ·simp only[h1,beq_self_eq_true,if_true]
    exact⟨fun _=>by rw[ih.1 h1,List.length_cons,Nat.add_comm],fun j h=>by exfalso;omega⟩
   ·have e2:(Lib.indexByte r 10==-1)=false:=by rw[beq_eq_false_iff_ne];exact h1
    simp only[e2,Bool.false_eq_true,if_false]
    refine⟨fun h=>by omega,fun j h=>?_⟩
    obtain⟨j,rfl⟩:∃ i,j=i+1:=⟨j-1,by omega⟩
    obtain⟨h2,h3⟩:=ih.2 j (by omega)
    refine⟨by rw[List.length_cons];exact Nat.succ_lt_succ h2,?_⟩
    rw[h3,List.drop_succ_cons]
    omega
theorem aid {r:List UInt8} (h:Lib.hasPrefix r [47,47]=true):(Lib.indexByte r 10<0→blk false r=r.length)∧(∀ j:Nat,Lib.indexByte r 10=j→1≤j∧j≤r.length∧blk false r=j+blk false (r.drop j)):=by
 have h1:=List.isPrefixOf_iff_prefix.1 h
 obtain⟨t,rfl⟩:=h1
 have hb:blk false ([47,47]++t)=1+blk true (47::t):=by simp[blk,QW]
 have hb2:blk true ([47,47]++t)=1+blk true (47::t):=by simp[blk]
 obtain⟨h2,h3⟩:=aeD ([47,47]++t)
 rw[hb,← hb2]
 refine⟨fun h=>h2 (by have:=Lib.indexByte_ge ([47,47]++t) 10;omega),fun j hj=>?_⟩
 obtain⟨h4,h5⟩:=h3 j hj
 refine⟨?_,by omega,h5⟩
 rcases Nat.eq_zero_or_pos j with e|e
 ·subst e
  have hge:=Lib.indexByte_ge t 10
  simp only[List.cons_append,List.nil_append,Lib.indexByte] at hj
  simp only[show ((47:UInt8)==10)=false by decide,Bool.false_eq_true,if_false] at hj
  split at hj<;>split at hj<;>simp_all<;>omega
 ·exact e
theorem XN {c:UInt8} {r:List UInt8} (h1:QW c=false) (h2:Lib.hasPrefix (c::r) [47,47]=false):blk false (c::r)=0:=by
 unfold blk
 rw[if_neg (by rw[h1];decide),if_neg]
 rintro⟨h3,h4⟩
 have e:c=47:=UInt8.toNat_inj.1 h3
 subst e
 cases r with
 | nil=>simp at h4
 | cons d r =>
  have e2:d=47:=by simpa using h4
  subst e2
  simp[Lib.hasPrefix,List.isPrefixOf] at h2
theorem Lc (s:ByteArray) (w:World) (hs:s.size≤1000000000000):Calls Tryz.prog 84 #[.string s] w fun x w'=>x=.returned (.int .i64 (blk false s.data.toList))∧w=w':=by
 obtain⟨m,Hm⟩:∃ m,Hid (m=blk false s.data.toList):=⟨_,rfl⟩
 rw[← Hm.out]
 go_enter Tryz.func84,Tryz.ntmps84
 go_wp2
 go_loop [3] (fun i=>∃ k:Nat,k≤s.size∧i=.int .i64 k∧Hid (m=k+blk false (s.data.toList.drop k))) (fun i=>s.size-(intOf i).toNat)
 case atStart=>exact⟨0,Nat.zero_le _,rfl,ae (by rw[Hm.out];simp)⟩
 case round =>
  obtain⟨k,hk,rfl,HF⟩:=hrel
  rcases Nat.lt_or_ge k s.size with hlt|hge
  ·have hd:=drop_at s k hlt
   have h1:=Tryz.strings_IndexByte ⟨#[32,9,10]⟩ ((s[k]'hlt).toNat:Int) w
   have h2:=Tryz.strings_HasPrefix (s.extract k s.size) ⟨#[47,47]⟩ w
   have h3:=Tryz.strings_IndexByte (s.extract k s.size) 10 w
   rw[alj] at h1
   rw[ext_list] at h2 h3
   have hws:decide (0≤Lib.indexByte (⟨#[32,9,10]⟩:ByteArray).data.toList s[k])=QW s[k]:=aic s[k]
   have alk:Lib.hasPrefix (s.data.toList.drop k) (⟨#[47,47]⟩:ByteArray).data.toList=true→_:=aid (r:=s.data.toList.drop k)
   have hoth:=XN (c:=s[k]) (r:=s.data.toList.drop (k+1))
   have h3:Calls Tryz.prog 116 #[.string (s.extract k s.size),.int .u8 10] w fun e w'=>e=.returned (.int .i64 (Lib.indexByte (s.data.toList.drop k) 10))∧w'=w:=h3
   rw[← hd] at hoth
   have hoth:QW s[k]=false→Lib.hasPrefix (s.data.toList.drop k) (⟨#[47,47]⟩:ByteArray).data.toList=false→_:=hoth
   have alm:=Lib.indexByte_ge (s.data.toList.drop k) 10
   generalize Lib.indexByte (⟨#[32,9,10]⟩:ByteArray).data.toList s[k]=i1 at *
   generalize Lib.hasPrefix (s.data.toList.drop k) (⟨#[47,47]⟩:ByteArray).data.toList=b2 at *
   generalize Lib.indexByte (s.data.toList.drop k) 10=i3 at *
   have hnext:QW s[k]=true→m=k+1+blk false (s.data.toList.drop (k+1)):=fun e=>by
    have:=HF.out
    rw[hd] at this
    unfold blk at this
    rw[if_pos e] at this
    omega
   generalize QW s[k]=bw at *
   have H1:=ae h1
   have H2:=ae h2
   have H3:=ae h3
   have an2:=ae alk
   have an3:=ae hoth
   have abV:=ae hnext
   have aq2:=ae alm
   clear h1 h2 h3 alk hoth hnext hd alm
   cases bw with
   | true =>
    have hi:(0:Int)≤i1:=by simpa using hws
    have Hk:=ae hk
    clear hws hk Hm
    go_wp2_with (fail)
    refine H1.out.mono ?_
    rintro e w' ⟨rfl,rfl⟩
    go_wp2
    go_round
    case rel=>exact⟨k+1,by omega,by go_num,ae (abV.out (by simp))⟩
    case measure=>simp[intOf];omega
   | false =>
    have hi:i1<0:=by simpa using hws
    clear hws
    go_wp2_with (fail)
    refine H1.out.mono ?_
    rintro e w' ⟨rfl,rfl⟩
    go_wp2_with (fail)
    refine H2.out.mono ?_
    rintro e w' ⟨rfl,rfl⟩
    cases b2 with
    | true =>
     obtain⟨h4,h5⟩:=an2.out (by simp)
     rcases Int.lt_or_le i3 0 with h6|h6
     ·have h7:=h4 h6
      have H7:Hid (m=s.size):=ae (by have:=HF.out;rw[h7,List.length_drop,zq] at this;omega)
      clear h4 h5 h7
      go_wp2_with (fail)
      refine H3.out.mono ?_
      rintro e w' ⟨rfl,rfl⟩
      go_wp2
      go_ret
      exact⟨by rw[H7.out];rfl,rfl⟩
     ·obtain⟨j,rfl⟩:∃ j:Nat,i3=j:=⟨i3.toNat,by omega⟩
      obtain⟨h7,h8,h9⟩:=h5 j rfl
      have h8:j≤s.size-k:=by simpa using h8
      have H9:Hid (m=k+j+blk false (s.data.toList.drop (k+j))):=ae (by rw[HF.out,h9,List.drop_drop];omega)
      clear h4 h5 h9
      go_wp2_with (fail)
      refine H3.out.mono ?_
      rintro e w' ⟨rfl,rfl⟩
      go_wp2
      go_round
      case rel=>exact⟨k+j,by omega,by go_num,H9⟩
      case measure=>simp[intOf];omega
    | false =>
     have H7:Hid (m=k):=ae (by have:=HF.out;rw[an3.out (by simp) (by simp)] at this;exact this)
     go_wp2
     go_ret
     exact⟨by rw[H7.out];rfl,rfl⟩
  ·have e:k=s.size:=by omega
   have H7:Hid (m=k):=ae (by
    have:=HF.out
    rw[List.drop_eq_nil_of_le (by rw[zq];omega)] at this
    exact this)
   go_wp2
   go_ret
   exact⟨by rw[H7.out,e];rfl,rfl⟩
theorem Ld (t:List UInt8) (c:UInt8):vY (t++[c])=10*vY t+(c.toNat-48):=by
 unfold vY
 rw[List.foldl_append]
 rfl
theorem take_one {l:List UInt8} {k:Nat} {y:UInt8} (h:l[k]?=some y):l.take (k+1)=l.take k++[y]:=by
 rw[List.take_add_one,h]
 rfl
def NumSaid (t:List UInt8) (v e:Int):Prop:=match sG t with
 | some n=>v=n∧e=0
 | none=>1≤e∧e≤100
theorem abW (n:Nat) (hn:n<18446744073709551616) (w:World):Calls Tryz.prog 139 #[.int .u64 n,.int .u64 10] w fun e w'=>e=.returned (.tuple #[.int .u64 ((n*10 / 18446744073709551616:Nat):Int),.int .u64 ((n*10 % 18446744073709551616:Nat):Int)])∧w'=w :=
 Tryz.bits_Mul64 n 10 hn (by omega) w
theorem abX (n d:Nat) (w:World):(callFunc 163 #[.int .u64 n,.int .u64 d,.int .u64 0]).run Tryz.prog w=.ok (.value (.tuple #[.int .u64 (((n+d) % 18446744073709551616:Nat):Int),.int .u64 (((n+d) / 18446744073709551616:Nat):Int)])) w :=
 Tryz.bits_Add64 n d 0 (by omega) w
theorem UD (a:Nat) (ha:a<18446744073709551616) (w:World):Calls Tryz.prog 164 #[.bool false,.int .u64 a] w fun e w'=>e=.returned (.tuple #[.int .i64 (if a≤9223372036854775807 then a else 0),.int .i64 (if a≤9223372036854775807 then 0 else 2)])∧w'=w:=by
 rcases Nat.lt_or_ge 9223372036854775807 a with h|h
 ·rw[if_neg (by omega),if_neg (by omega)]
  go_enter Tryz.func164,Tryz.ntmps164
  go_wp2
  go_ret2
  exact⟨rfl,rfl⟩
 ·rw[if_pos h,if_pos h]
  go_enter Tryz.func164,Tryz.ntmps164
  go_wp2
  go_ret2
  exact⟨rfl,rfl⟩
theorem XO {l:List UInt8} {k a hi lo:Nat} {y:UInt8} {o:Bool} (hy:l[k]?=some y) (h:a=vY (l.take k) % 18446744073709551616∧o=decide (18446744073709551616≤vY (l.take k))∧∀ y∈l.take k,wB y=true) (hhi:a*10 / 18446744073709551616=hi) (hlo:a*10 % 18446744073709551616=lo) :
  (lo+(y.toNat-48)) % 18446744073709551616=vY (l.take (k+1)) % 18446744073709551616∧(o||decide (hi≠0)||decide ((lo+(y.toNat-48)) / 18446744073709551616≠0))=decide (18446744073709551616≤vY (l.take (k+1))):=by
 rw[take_one hy,Ld]
 obtain⟨h1,h2,_⟩:=h
 generalize vY (l.take k)=N at *
 have hyl:=y.toNat_lt
 generalize y.toNat-48=d at *
 subst h1
 refine⟨by omega,?_⟩
 rw[Bool.eq_iff_iff]
 simp only[h2,Bool.or_eq_true,decide_eq_true_eq]
 omega
theorem zt (s:ByteArray) (w:World) (h0:0<s.size) (hs:s.size≤1000000000000) (hd:wB s[0]=true) :
  Calls Tryz.prog 144 #[.string s] w fun x w'=>(∃ v e:Int,x=.returned (.tuple #[.int .i64 v,.int .i64 e])∧NumSaid s.data.toList v e)∧Below w.heap.size w w':=by
 obtain⟨c,r,hl,hc,hlen⟩:=VW s h0
 have hdc:48≤c.toNat∧c.toNat≤57:=by
  rw[hc] at hd
  simpa [wB] using hd
 have hne:(((s[0]'h0).toNat:Int)==45)=false:=by rw[hc];rw[beq_eq_false_iff_ne];omega
 have he:s.toList.isEmpty=false:=by
  cases hx:s.toList with
  | nil=>exact absurd ((EM s).1 hx) (by omega)
  | cons a l=>rfl
 have hcv:=fun (W:World)=>Lib.run_convert_string_bytes (P:=Tryz.prog) W 9 79 5 s Tryz.underlying9 Tryz.underlying79 Tryz.underlying5
 have hcell:=Lib.bytesWorld_cell w 5 s
 have abl:=ae hcell
 have hbel:=Jl w 5 s
 rcases Classical.em (c.toNat=48∧1<s.size) with hz|hz
 ·have hN:NumSaid s.data.toList 0 12:=by
   have e:c=48:=UInt8.toNat_inj.1 hz.1
   unfold NumSaid sG
   rw[hl,if_pos (.inl ⟨by rw[e];rfl,by simp only[List.length_cons];omega⟩)]
   decide
  have hq:(((s[0]'h0).toNat:Int)==48)=true:=by rw[hc];rw[beq_iff_eq];omega
  have hq2:decide ((1:Int)<(s.size:Int))=true:=by simp;omega
  have HN:=ae hN
  clear hN hcell hbel hcv hz hdc hl hlen hc hd
  go_enter Tryz.func144,Tryz.ntmps144
  go_wp2
  go_ret2
  exact⟨⟨_,_,rfl,HN.out⟩,Below.refl _ _⟩
 ·have hN:∀ a:Nat,(∀ y∈s.data.toList,wB y=true)→a=vY s.data.toList→NumSaid s.data.toList (if a≤9223372036854775807 then a else 0) (if a≤9223372036854775807 then 0 else 2):=fun a h1 h2=>by
   unfold NumSaid sG
   rw[if_neg,← h2]
   ·rcases Classical.em (a≤9223372036854775807) with ha|ha
    ·simp only[if_pos ha,and_true]
    ·simp only[if_neg ha];decide
   ·rintro(h3|h3)
    ·rw[hl] at h3
     simp at h3
     have:c.toNat=48:=by rw[h3.1];rfl
     have:1<s.size:=by rw[← hlen];have:=h3.2;cases r with|nil=>simp at this|cons a b=>simp
     omega
    ·rw[List.all_eq_false] at h3
     obtain⟨y,hy,h4⟩:=h3
     exact h4 (h1 y hy)
  have hX:∀ y∈s.data.toList,wB y=false→NumSaid s.data.toList 0 12:=fun y hy h=>by
   unfold NumSaid sG
   rw[if_pos (.inr (List.all_eq_false.2 ⟨y,hy,by rw[h];decide⟩))]
   decide
  have hq:(((s[0]'h0).toNat:Int)==48)=false∨(((s[0]'h0).toNat:Int)==48)=true∧¬ ((1:Int)<(s.size:Int)):=by
   rw[hc,beq_eq_false_iff_ne,beq_iff_eq]
   omega
  have HN:=ae hN
  have HX:=ae hX
  have aeE:=ae hbel
  clear hN hX hcell hz hdc hl hlen hbel hc hd
  rcases hq with hq|⟨hq,hq2⟩
  all_goals
   go_enter Tryz.func144,Tryz.ntmps144
   go_wp2
   generalize Lib.bytesWorld w 5 s=wb at *
   go_loop [6,7,42] (fun n ov i=>∃ (k a:Nat) (o:Bool),k≤s.size∧n=.int .u64 a∧ov=.bool o∧i=.int .i64 k∧Hid (a=vY (s.data.toList.take k) % 18446744073709551616∧o=decide (18446744073709551616≤vY (s.data.toList.take k))∧∀ y∈s.data.toList.take k,wB y=true)) (fun _ _ i=>s.size-(intOf i).toNat)
   case atStart=>exact⟨0,0,false,Nat.zero_le _,rfl,rfl,rfl,ae ⟨rfl,rfl,by simp⟩⟩
   case round =>
    obtain⟨k,a,o,hk,rfl,rfl,rfl,HS⟩:=hrel
    by_cases hlt:k<s.size
    ·have hc1:=abl.out k hlt
     obtain⟨y,hy⟩:∃ y,s.data.toList[k]?=some y:=⟨_,List.getElem?_eq_getElem (by simpa using hlt)⟩
     rw[List.getD_eq_getElem?_getD,hy,Option.getD_some] at hc1
     have Hy:=ae hy
     have ha:a<18446744073709551616:=by rw[HS.out.1];exact Nat.mod_lt _ (by decide)
     have hm:=abW a ha wb
     have hA:=fun d=>abX (a*10 % 18446744073709551616) d wb
     generalize hhi:a*10 / 18446744073709551616=hi at *
     generalize hlo:a*10 % 18446744073709551616=lo at *
     have Hm:=ae hm
     have HA:=ae hA
     have Hd:=ae (And.intro hhi hlo)
     have hdd:wB y=true∨(y.toNat<48∨57<y.toNat):=by
      rcases Classical.em (wB y=true) with h|h
      ·exact .inl h
      ·right
       rw[Bool.not_eq_true] at h
       simp[wB] at h
       omega
     clear hy hm hA hhi hlo
     rcases hdd with hdd|hdd|hdd
     ·have hdg:48≤y.toNat∧y.toNat≤57:=by simpa [wB] using hdd
      obtain⟨e1,e2⟩:=hdg
      have hA:=HA.out (y.toNat-48)
      have e3:(((y.toNat-48:Nat):Int))=(y.toNat:Int)-48:=by omega
      rw[e3] at hA
      have hnum:=XO Hy.out HS.out Hd.out.1 Hd.out.2
      have hall:∀ z∈s.data.toList.take (k+1),wB z=true:=by
       rw[take_one Hy.out]
       intro z hz
       rcases List.mem_append.1 hz with hz|hz
       ·exact HS.out.2.2 z hz
       ·simp only[List.mem_singleton] at hz;subst hz;exact hdd
      generalize (lo+(y.toNat-48)) % 18446744073709551616=S at *
      generalize (lo+(y.toNat-48)) / 18446744073709551616=C at *
      have um:=ae (And.intro hnum hall)
      clear hnum hall
      go_wp2_with (fail)
      refine Hm.out.mono ?_
      rintro e w' ⟨rfl,rfl⟩
      cases o with
      | true =>
       go_wp2
       go_round
       case rel=>exact⟨k+1,S,true,by omega,rfl,rfl,by go_num,ae ⟨um.out.1.1,by rw[← um.out.1.2];rfl,um.out.2⟩⟩
       case measure=>simp[intOf];omega
      | false =>
       rcases Nat.eq_zero_or_pos hi with h1|h1
       ·subst h1
        rcases Nat.eq_zero_or_pos C with h2|h2
        ·subst h2
         go_wp2
         go_round
         case rel=>exact⟨k+1,S,false,by omega,rfl,rfl,by go_num,ae ⟨um.out.1.1,by rw[← um.out.1.2];rfl,um.out.2⟩⟩
         case measure=>simp[intOf];omega
        ·have h3:((C:Int)==0)=false:=by rw[beq_eq_false_iff_ne];omega
         have h4:((C:Int) !=0)=true:=by simp;omega
         go_wp2
         go_round
         case rel=>exact⟨k+1,S,true,by omega,rfl,rfl,by go_num,ae ⟨um.out.1.1,by rw[← um.out.1.2];simp;omega,um.out.2⟩⟩
         case measure=>simp[intOf];omega
       ·have h3:((hi:Int)==0)=false:=by rw[beq_eq_false_iff_ne];omega
        go_wp2
        go_round
        case rel=>exact⟨k+1,S,true,by omega,rfl,rfl,by go_num,ae ⟨um.out.1.1,by rw[← um.out.1.2];simp;omega,um.out.2⟩⟩
        case measure=>simp[intOf];omega
     ·have hx:=HX.out y (List.mem_of_getElem? Hy.out) (by simp[wB];omega)
      have Hx:=ae hx
      clear hx
      go_wp2
      go_ret2
      exact⟨⟨_,_,rfl,Hx.out⟩,aeE.out⟩
     ·have hx:=HX.out y (List.mem_of_getElem? Hy.out) (by simp[wB];omega)
      have Hx:=ae hx
      clear hx
      go_wp2
      go_ret2
      exact⟨⟨_,_,rfl,Hx.out⟩,aeE.out⟩
    ·have e:k=s.size:=by omega
     have hlL:s.data.toList.length≤k:=by rw[zq];omega
     have hS:=HS.out
     rw[List.take_of_length_le hlL] at hS
     cases o with
     | true =>
      have h1:NumSaid s.data.toList 0 2:=by
       have:=HN.out (vY s.data.toList) hS.2.2 rfl
       have h2:18446744073709551616≤vY s.data.toList:=by simpa using hS.2.1
       rw[if_neg (by omega),if_neg (by omega)] at this
       exact this
      have H1:=ae h1
      clear hS h1
      go_wp2
      go_ret2
      exact⟨⟨_,_,rfl,H1.out⟩,aeE.out⟩
     | false =>
      have h1:NumSaid s.data.toList (if a≤9223372036854775807 then a else 0) (if a≤9223372036854775807 then 0 else 2):=by
       have h2:¬ 18446744073709551616≤vY s.data.toList:=by simpa using hS.2.1
       have h3:a=vY s.data.toList:=by have:=hS.1;omega
       exact HN.out a hS.2.2 h3
      have ha:a<18446744073709551616:=by have:=hS.1;omega
      have hsg:=UD a ha wb
      generalize (if a≤9223372036854775807 then (a:Int) else 0)=v1 at *
      generalize (if a≤9223372036854775807 then (0:Int) else 2)=v2 at *
      have H1:=ae h1
      have EH:=ae hsg
      clear hS h1 hsg ha
      go_wp2_with (fail)
      refine EH.out.mono ?_
      rintro e w' ⟨rfl,rfl⟩
      go_wp2
      go_ret2
      exact⟨⟨_,_,rfl,H1.out⟩,aeE.out⟩
theorem fD {fn:Func} {p u v:Tmp} {tmps:Array Value} {w:World} {g:Nat} {t:TypeId} {cs:Array Value} {x y:Value} (h:fn.results=#[.cell p 101,.tmp u,.tmp v]) (hp:tmps.getD p undef=.pointer (some ⟨g,0,none⟩)) (hk:af w g t cs) (hz:cs.size=4) (hv:tmps.getD u undef=x) (hy:tmps.getD v undef=y):(results fn tmps).run Tryz.prog w=.ok (.tuple #[.agg cs,x,y]) w:=by
 have h2:=run_loadVar_row (P:=Tryz.prog) w g t 101 cs (0,0) _ hk Tryz.underlying101 rfl (by rw[hz];exact Jc)
 simp only[results,h]
 have e1:tmps[p]?.getD undef=.pointer (some ⟨g,0,none⟩):=by simpa using hp
 have e2:tmps[u]?.getD undef=x:=by simpa using hv
 have e3:tmps[v]?.getD undef=y:=by simpa using hy
 simp[Result.andThen,e1,e2,e3,asAddr,h2]
def NextSaid (o:Option Nx) (e:Ending):Prop:=match o with
 | some x=>e=.returned (.tuple #[.agg #[.int .i64 x.kind,.string (str x.text),.int .i64 x.n,.int .i64 0],.int .i64 x.len,.bool true])
 | none=>∃ (k:Int) (t:ByteArray) (m n:Int),e=.returned (.tuple #[.agg #[.int .i64 k,.string t,.int .i64 m,.int .i64 0],.int .i64 n,.bool false])
abbrev u8v (c:UInt8):List Value:=[.int .u8 (c.toNat:Int)]
theorem abZ (l:List UInt8):(l.map u8v).flatten=l.map fun c=>Value.int .u8 (c.toNat:Int):=by
 induction l with
 | nil=>rfl
 | cons c l ih=>rw[List.map_cons,List.flatten_cons,ih];rfl
theorem aln:kC Tryz.prog 79 5 1 1 (.int .u8 0):=⟨Tryz.underlying79,by kernel_rfl,rfl,by decide⟩
theorem ab1 {w:World} {base:Nat} {A:Option Addr} {c:Nat} {l:List UInt8} (h:w.ownsRow base 5 1 (.slice A l.length c) l.length (l.map u8v).flatten) :
  (convert 79 9 (.slice A l.length c)).run Tryz.prog w=.ok (.string (str l)) w:=by
 rcases Nat.eq_zero_or_pos l.length with h0|h0
 ·have hl:l=[]:=List.eq_nil_of_length_eq_zero h0
  subst hl
  cases A with
  | none =>
   rw[run_convert_bytes_string w 79 9 5 none _ c Tryz.underlying79 Tryz.underlying5 Tryz.underlying9]
   simp[Conv.bytesToString]
   rfl
  | some a =>
   exact run_convert_bytes_back (P:=Tryz.prog) w 79 9 5 a c [] Tryz.underlying79 Tryz.underlying5 Tryz.underlying9 (fun j hj=>by simp at hj)
 ·obtain⟨g,cap,hv,hb,hg⟩:=h.form h0
  simp only[Value.slice.injEq] at hv
  obtain⟨rfl,_,_⟩:=hv
  exact run_convert_bytes_back (P:=Tryz.prog) w 79 9 5 ⟨g,0,none⟩ c l Tryz.underlying79 Tryz.underlying5 Tryz.underlying9 (fun j hj=>h.cells (g:=g) rfl j _ (by rw[abZ,List.getElem?_map,List.getElem?_eq_getElem hj];rfl))
theorem zW {w w':World} {base:Nat} {T:TypeId} {sz:Nat} {A:Option Addr} {n c:Nat} {xs:List Value} (h:w.ownsRow base T sz (.slice A n c) n xs) (hb:But (fun k=>A.map (·.block)=some k) w w') (hB:base≤w.heap.size):Below base w w' :=
 hb.below' hB (fun i hi=>by
  cases A with
  | none=>cases hi
  | some a =>
   have e:a.block=i:=by simpa using hi
   subst e
   exact(h.lt a.block rfl).1)
theorem V4 (l:List UInt8) (c:UInt8):(l.map u8v++[u8v c])=(l++[c]).map u8v:=by simp
theorem aie {c d:UInt8} {r acc:List UInt8} {i:Nat}:quo (c::d::r) acc i=if c.toNat=10 then none else if c.toNat=39 then (if d.toNat=39 then quo r (acc++[39]) (i+2) else some (acc,i+1)) else quo (d::r) (acc++[c]) (i+1):=by rw[quo]
theorem aeF {c:UInt8} {acc:List UInt8} {i:Nat}:quo [c] acc i=if c.toNat=10 then none else if c.toNat=39 then some (acc,i+1) else none:=by rw[quo]
theorem Nv {c:UInt8} {r acc:List UInt8} {i:Nat}:(c.toNat=10→quo (c::r) acc i=none)∧(c.toNat≠10→c.toNat≠39→quo (c::r) acc i=quo r (acc++[c]) (i+1)) ∧
  (c.toNat=39→(r.head?=some 39→quo (c::r) acc i=quo (r.drop 1) (acc++[39]) (i+2))∧(r.head?≠some 39→quo (c::r) acc i=some (acc,i+1))):=by
 cases r with
 | nil =>
  rw[aeF]
  refine⟨fun h=>by rw[if_pos h],fun h1 h2=>by rw[if_neg h1,if_neg h2];rfl,fun h=>⟨fun h2=>by simp at h2,fun _=>by rw[if_neg (by omega),if_pos h]⟩⟩
 | cons d r =>
  rw[aie]
  refine⟨fun h=>by rw[if_pos h],fun h1 h2=>by rw[if_neg h1,if_neg h2],fun h=>⟨fun h2=>?_,fun h2=>?_⟩⟩
  ·have e:d=39:=by simpa using h2
   rw[if_neg (by omega),if_pos h,if_pos (by rw[e];rfl)]
   rfl
  ·have e:¬ d.toNat=39:=fun e=>h2 (by rw[← UInt8.toNat_inj.1 (show d.toNat=(39:UInt8).toNat from e)];rfl)
   rw[if_neg (by omega),if_pos h,if_neg e]
theorem Ed {w w1 wr:World} (hk:af wr w.heap.size 101 #[.int .i64 0,.string ⟨#[]⟩,.int .i64 0,.int .i64 0]) (hb1:Below w.heap.size w w1) (hz:w1.heap.size=w.heap.size+1) (hb:Below w1.heap.size w1 wr) (k:Int) (t:ByteArray) (n a:Int) :
  af ((((wr.setCell ⟨w.heap.size,0,none⟩ (.int .i64 k)).setCell ⟨w.heap.size,1,none⟩ (.string t)).setCell ⟨w.heap.size,2,none⟩ (.int .i64 n)).setCell ⟨w.heap.size,3,none⟩ (.int .i64 a)) w.heap.size 101 #[.int .i64 k,.string t,.int .i64 n,.int .i64 a] ∧
  Below w.heap.size w ((((wr.setCell ⟨w.heap.size,0,none⟩ (.int .i64 k)).setCell ⟨w.heap.size,1,none⟩ (.string t)).setCell ⟨w.heap.size,2,none⟩ (.int .i64 n)).setCell ⟨w.heap.size,3,none⟩ (.int .i64 a)) :=
 ⟨(((hk.stored 0 (.int .i64 k)).stored 1 (.string t)).stored 2 (.int .i64 n)).stored 3 (.int .i64 a),
  ((((hb1.trans (hb.mono (by omega))).setCell (p:=⟨_,0,none⟩) (Nat.le_refl _) _).setCell (p:=⟨_,1,none⟩) (Nat.le_refl _) _).setCell (p:=⟨_,2,none⟩) (Nat.le_refl _) _).setCell (p:=⟨_,3,none⟩) (Nat.le_refl _) _⟩
def aif:Option (List UInt8×Nat)→Option Nx
 | none=>none
 | some (b,n)=>if b.length≤200 then some ⟨2,b,0,n⟩ else none
theorem UE (s:List UInt8):lV s=aif (quo (s.drop 1) [] 1):=by
 unfold lV
 cases quo (s.drop 1) [] 1<;>rfl
theorem UF (s:ByteArray) (w:World) (h0:0<s.size) (hs:s.size≤1000000000) :
  Calls Tryz.prog 119 #[.string s] w fun x w'=>NextSaid (lV s.data.toList) x∧Below w.heap.size w w':=by
 obtain⟨w1,Hw1⟩:∃ w1,Hid (w1=w.alloc (.cells #[.int .i64 0,.string ⟨#[]⟩,.int .i64 0,.int .i64 0] 101)):=⟨_,rfl⟩
 have hb1:Below w.heap.size w w1:=by rw[Hw1.out];exact(Below.refl _ _).alloc (Nat.le_refl _) _
 have hk1:af w1 w.heap.size 101 #[.int .i64 0,.string ⟨#[]⟩,.int .i64 0,.int .i64 0]:=by rw[Hw1.out];exact af.laid _ _ _
 have hz1:w1.heap.size=w.heap.size+1:=by rw[Hw1.out];simp
 obtain⟨m,Hm⟩:∃ m,Hid (m=quo (s.data.toList.drop 1) [] 1):=⟨_,rfl⟩
 have hQ:lV s.data.toList=aif m:=by rw[Hm.out,UE]
 generalize lV s.data.toList=Q at *
 have HQ:=ae hQ
 have Hb1:=ae hb1
 have Hk1:=ae hk1
 have Sr:=ae hz1
 clear hQ hb1 hk1 hz1
 go_enter Tryz.func119,Tryz.ntmps119
 go_upto_region 1 with (fail)
 rw[← Hw1.out]
 go_wp2
 go_loopw [5,6] (fun b i wr=>∃ (k:Nat) (l:List UInt8) (A:Option Addr) (c:Nat),1≤k∧k≤s.size∧i=.int .i64 k∧b=.slice A l.length c∧wr.ownsRow w1.heap.size 5 1 (.slice A l.length c) l.length (l.map u8v).flatten∧l.length≤k∧Hid (m=quo (s.data.toList.drop k) l k)∧Below w1.heap.size w1 wr) (fun _ i _=>s.size-(intOf i).toNat)
 case atStart=>exact⟨1,[],none,0,Nat.le_refl _,h0,rfl,rfl,World.ownsRow_nil _ _ _ _,by simp,Hm,Below.refl _ _⟩
 case round =>
  obtain⟨k,l,A,c,hk1,hk,rfl,rfl,hown,hll,HF,hb⟩:=hrel
  have hkr:=Hk1.out.ag (hb.block _ Hk1.out.lt)
  obtain⟨c0,c1,c2,c3,clt⟩:=cells4 hkr
  have hfz:=hkr.frozen
  have aeG:=ab1 hown
  have Hkr:=ae hkr
  have Me:=ae hown
  have Hb:=ae hb
  have bn:=ae (fun (k0:Int) (t0:ByteArray) (n0 a0:Int)=>Ed Hkr.out Hb1.out Sr.out Hb.out k0 t0 n0 a0)
  clear hkr hown hb
  rcases Nat.lt_or_ge k s.size with hlt|hge
  ·have hd:=drop_at s k hlt
   obtain⟨q1,q2,q3⟩:=Nv (c:=s[k]) (r:=s.data.toList.drop (k+1)) (acc:=l) (i:=k)
   rw[← hd] at q1 q2 q3
   rw[← HF.out] at q1 q2 q3
   have hnx:∀ h:k+1<s.size,(s.data.toList.drop (k+1)).head?=some s[k+1]:=fun h=>by rw[drop_at s (k+1) h];rfl
   have hnx2:s.size≤k+1→(s.data.toList.drop (k+1)).head?=none:=fun h=>by rw[List.drop_eq_nil_of_le (by rw[zq];omega)];rfl
   rw[List.drop_drop] at q3
   have hex:∀ c:UInt8,az (wr.alloc (.cells #[.int .u8 (c.toNat:Int)] 5)) 1 (some ⟨wr.heap.size,0,none⟩) 1 1 [u8v c]:=fun c=>az.nG _ _ 1 rfl rfl (by simp) rfl (by unfold maxLen;omega)
   have hal:∀ c:UInt8,Below wr.heap.size wr (wr.alloc (.cells #[.int .u8 (c.toNat:Int)] 5)):=fun c=>(Below.refl _ _).alloc (Nat.le_refl _) _
   have Hex:=ae hex
   have KX:=ae hal
   have hmx:l.length+1≤maxLen:=by unfold maxLen;omega
   have hby:(l.length+1)*1≤140737488355328:=by omega
   have QF:=ae (And.intro hmx hby)
   have SK:=ae q1
   have Hq2:=ae q2
   have Hq3:=ae q3
   have Hll:=ae hll
   have TV:=ae hlt
   clear q1 q2 q3 hd hmx hby hex hal hll
   rcases Classical.em (s[k].toNat=10) with e10|e10
   ·have b1:((s[k].toNat:Int)==10)=true:=by rw[beq_iff_eq];omega
    have hm:=SK.out e10
    have hq:=HQ.out
    rw[hm] at hq
    have HQ':=ae hq
    clear e10 hm hq hnx hnx2 aeG
    go_wp2
    refine bodyPost_ret (fD Tryz.results119 rfl (bn.out 0 ⟨#[]⟩ 0 0).1 rfl rfl rfl) rfl ⟨?_,(bn.out 0 ⟨#[]⟩ 0 0).2⟩
    rw[HQ'.out]
    exact⟨_,_,_,_,rfl⟩
   ·have b1:((s[k].toNat:Int)==10)=false:=by rw[beq_eq_false_iff_ne];omega
    rcases Classical.em (s[k].toNat=39) with e39|e39
    ·have b2:((s[k].toNat:Int) !=39)=false:=by simp;omega
     obtain⟨q4,q5⟩:=Hq3.out e39
     rcases Classical.em (∃ h:k+1<s.size,s[k+1].toNat=39) with e3|e3
     ·obtain⟨h3,e3⟩:=e3
      have b3:((s[k+1].toNat:Int)==39)=true:=by rw[beq_iff_eq];omega
      have hm:=q4 (by rw[hnx h3,← UInt8.toNat_inj.1 (show s[k+1].toNat=(39:UInt8).toNat from e3)])
      have HF2:=ae hm
      clear e10 e39 e3 q4 q5 hm hnx hnx2 aeG
      have hown2:=own_below Me.out (KX.out 39)
      have Q3:=ae hown2
      clear hown2
      go_wp2_with (at_builtin;refine gy (base:=w1.heap.size) (xs:=l.map u8v) (news:=[u8v 39]) rfl rfl aln rfl Q3.out rfl (Hex.out 39) (by simp) (by simp[Value.oneCell']) QF.out.1 QF.out.2 (by (have:=Hb.out.size;simp;omega)) ?_;intro A6 c6 w6 hown6 dS FM)
      rw[V4] at hown6
      have hb6:=(Hb.out.trans ((KX.out 39).mono Hb.out.size)).trans (zW Q3.out dS (by have:=Hb.out.size;simp;omega))
      go_roundw
      case rel=>exact⟨k+2,l++[39],A6,c6,by omega,by omega,by go_num,by simp,by simpa using hown6,by have:=Hll.out;simp;omega,HF2,hb6⟩
      case measure=>simp[intOf];omega
     ·have hm:=q5 (fun e=>e3 (by
       rcases Nat.lt_or_ge (k+1) s.size with h|h
       ·rw[hnx h] at e
        exact⟨h,by rw[Option.some.inj e];rfl⟩
       ·rw[hnx2 h] at e;cases e))
      have hq:=HQ.out
      rw[hm] at hq
      simp only[aif] at hq
      have hnx3:¬ (k+1<s.size)∨∃ h:k+1<s.size,((s[k+1].toNat:Int)==39)=false:=by
       rcases Nat.lt_or_ge (k+1) s.size with h|h
       ·exact .inr ⟨h,by rw[beq_eq_false_iff_ne];exact fun e=>e3 ⟨h,by omega⟩⟩
       ·exact .inl (by omega)
      have HQ':=ae hq
      have hfin:∀ b:Bool,b=decide (l.length≤200)→NextSaid Q (.returned (.tuple #[.agg #[.int .i64 2,.string (str l),.int .i64 0,.int .i64 0],.int .i64 ((k+1:Nat):Int),.bool b])):=fun b hb=>by
       rw[HQ'.out]
       rcases Classical.em (l.length≤200) with h|h
       ·rw[if_pos h,hb,decide_eq_true h];rfl
       ·rw[if_neg h,hb,decide_eq_false h];exact⟨_,_,_,_,rfl⟩
      have Hfn:=ae hfin
      clear e10 e39 e3 q4 q5 hm hnx hnx2 hq hfin
      rcases hnx3 with h3|⟨h3,b3⟩
      ·rcases Classical.em ((l.length:Int)≤200) with aih|aih
       ·go_wp2
        refine bodyPost_ret (fD Tryz.results119 rfl (bn.out 2 (str l) 0 0).1 rfl rfl rfl) rfl ⟨Hfn.out _ (by simp;omega),(bn.out 2 (str l) 0 0).2⟩
       ·go_wp2
        refine bodyPost_ret (fD Tryz.results119 rfl (bn.out 2 (str l) 0 0).1 rfl rfl rfl) rfl ⟨Hfn.out _ (by simp;omega),(bn.out 2 (str l) 0 0).2⟩
      ·rcases Classical.em ((l.length:Int)≤200) with aih|aih
       ·go_wp2
        refine bodyPost_ret (fD Tryz.results119 rfl (bn.out 2 (str l) 0 0).1 rfl rfl rfl) rfl ⟨Hfn.out _ (by simp;omega),(bn.out 2 (str l) 0 0).2⟩
       ·go_wp2
        refine bodyPost_ret (fD Tryz.results119 rfl (bn.out 2 (str l) 0 0).1 rfl rfl rfl) rfl ⟨Hfn.out _ (by simp;omega),(bn.out 2 (str l) 0 0).2⟩
    ·have b2:((s[k].toNat:Int) !=39)=true:=by simp;omega
     have hm:=Hq2.out e10 e39
     have HF2:=ae hm
     clear e10 e39 hm hnx hnx2 aeG
     have hown2:=own_below Me.out (KX.out s[k])
     have Q3:=ae hown2
     clear hown2
     go_wp2_with (at_builtin;refine gy (base:=w1.heap.size) (xs:=l.map u8v) (news:=[u8v s[k]]) rfl rfl aln rfl Q3.out rfl (Hex.out _) (by simp) (by simp[Value.oneCell']) QF.out.1 QF.out.2 (by (have:=Hb.out.size;simp;omega)) ?_;intro A6 c6 w6 hown6 dS FM)
     rw[V4] at hown6
     have hb6:=(Hb.out.trans ((KX.out s[k]).mono Hb.out.size)).trans (zW Q3.out dS (by have:=Hb.out.size;simp;omega))
     go_roundw
     case rel=>exact⟨k+1,l++[s[k]],A6,c6,by omega,by omega,by go_num,by simp,by simpa using hown6,by have:=Hll.out;simp;omega,HF2,hb6⟩
     case measure=>simp[intOf];omega
  ·have hm:m=none:=by
    rw[HF.out,List.drop_eq_nil_of_le (by rw[zq];omega)]
    rfl
   have hq:=HQ.out
   rw[hm] at hq
   have HQ':=ae hq
   clear hq hm aeG
   go_wp2
   refine bodyPost_ret (fD Tryz.results119 rfl (bn.out 0 ⟨#[]⟩ 0 0).1 rfl rfl rfl) rfl ⟨?_,(bn.out 0 ⟨#[]⟩ 0 0).2⟩
   rw[HQ'.out]
   exact⟨_,_,_,_,rfl⟩
end Go.Proofs.YtjjfkhbajidmdaaGreatDoor
