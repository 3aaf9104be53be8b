/- Parts of this proof, one behind the other: RefHA. -/
import Derived.Test.YtmfcmpnlipnopaaGreatTw37
import Derived.Outline
set_option maxRecDepth 1000000
set_option maxHeartbeats 40000000
namespace Go.Proofs.YtmfcmpnlipnopaaGreat
open Go.RowKit Go.Afx
theorem leafB0 (op n:Int) (name src f:ByteArray) (Ac Ae Ab Al:Option Addr) (nc cc ne ce nb cb nl cl:Nat) (w w5:World)
  (oknf:okS f) (hx5:IsBlk w5 w.heap.size 65 #[.int .i64 op,.string name,.string src,.int .i64 n,.slice Ac nc cc,.slice Ae ne ce,.slice Ab nb cb,.slice Al nl cl]) (j3:inB f 99=hC op) (j4:inB f 78=hM op) (j5:inB f 98=hB op) (j6:inB f 101=hE op) (hc:hC op=false) (hm:hM op=false) (hb:hB op=false) (he:hE op=false) (hc0:¬ (0<nc)) (hnz:n≠0) :
  SigB op n f nc nb nl w w5:=by
 unfold SigB
 intros
 rename_i hI
 conv=>arg 2;whnf
 have HI:=Lhd hI
 clear hI
 have HR:Hid (tB op n nc nb nl=true):=Lhd (by unfold tB;rw[hc,hm,hb,he];simp;omega)
 rw[hc] at j3
 have HC:=Lhd (fun W=>in_at f 99 99 _ oknf rfl j3 W)
 rw[hm] at j4
 have HM:=Lhd (fun W=>in_at f 78 78 _ oknf rfl j4 W)
 rw[hb] at j5
 have HBb:=Lhd (fun W=>in_at f 98 98 _ oknf rfl j5 W)
 rw[he] at j6
 have HEe:=Lhd (fun W=>in_at f 101 101 _ oknf rfl j6 W)
 clear j3 j4 j5 j6 hc hm hb he oknf
 obtain⟨z0,z1,z2,z3,z4,z5,z6,z7,zl⟩:=stBox' hx5
 clear hx5
 have d0:decide ((0:Int)<(nc:Int))=false:=by simp;omega
 have d8:decide ((8:Int)<(nc:Int))=false:=by simp;omega
 have dz:(n !=0)=true:=by simpa using hnz
 clear hnz
 have HSS:(fun W=>W.cell? ⟨w.heap.size,3,none⟩=some (.int .i64 n)∧W.cell? ⟨w.heap.size,4,none⟩=some (.slice Ac nc cc)∧W.cell? ⟨w.heap.size,6,none⟩=some (.slice Ab nb cb)∧W.cell? ⟨w.heap.size,7,none⟩=some (.slice Al nl cl)) w5.drew:=⟨z3,z4,z6,z7⟩
 refine wp_region_held (S:=(fun W=>W.cell? ⟨w.heap.size,3,none⟩=some (.int .i64 n)∧W.cell? ⟨w.heap.size,4,none⟩=some (.slice Ac nc cc)∧W.cell? ⟨w.heap.size,6,none⟩=some (.slice Ab nb cb)∧W.cell? ⟨w.heap.size,7,none⟩=some (.slice Al nl cl))) (by kernel_rfl) ?_
 change wpAnyH _ _ _ _ _ _ _ _ (World.drew _)
 refine tk 0 (.string f) rfl HSS ?_
 go_simp
 refine tk 2 (.pointer (some ⟨w.heap.size,4,none⟩)) rfl HSS ?_
 go_simp
 refine tk 3 (.slice Ac nc cc) rfl HSS ?_
 go_simp
 refine tk 4 (.int .i64 (nc:Int)) rfl HSS ?_
 go_simp
 refine tk 5 (.bool false) rfl HSS ?_
 go_simp
 refine wpAnyH_ready (rs:=[1]) (by kernel_rfl) (by simp) ?_
 refine AllReadyH.cons rfl (fun K hK=>?_) AllReadyH.nil
 go_simp
 refine(HC.out _).mono ?_
 rintro e w' ⟨rfl,rfl⟩
 go_simp
 refine hK.out _ _ HSS (fun _=>?_);clear hK K
 refine tk 6 (.bool false) rfl HSS ?_
 go_simp
 refine tk 7 (.bool false) rfl HSS ?_
 go_simp
 refine tk 8 (.pointer (some ⟨w.heap.size,4,none⟩)) rfl HSS ?_
 go_simp
 refine tk 9 (.slice Ac nc cc) rfl HSS ?_
 go_simp
 refine tk 10 (.int .i64 (nc:Int)) rfl HSS ?_
 go_simp
 refine tk 11 (.bool false) rfl HSS ?_
 go_simp
 refine tk 12 (.bool false) rfl HSS ?_
 go_simp
 refine tk 13 (.bool false) rfl HSS ?_
 go_simp
 refine tk 14 (.string f) rfl HSS ?_
 go_simp
 refine wpAnyH_ready (rs:=[15]) (by kernel_rfl) (by simp) ?_
 refine AllReadyH.cons rfl (fun K hK=>?_) AllReadyH.nil
 go_simp
 refine(HM.out _).mono ?_
 rintro e w' ⟨rfl,rfl⟩
 go_simp
 refine hK.out _ _ HSS (fun _=>?_);clear hK K
 refine tk 16 (.bool true) rfl HSS ?_
 go_simp
 refine tk 17 (.bool true) rfl HSS ?_
 go_simp
 refine tk 18 (.pointer (some ⟨w.heap.size,3,none⟩)) rfl HSS ?_
 go_simp
 refine tk 19 (.int .i64 n) rfl HSS ?_
 go_simp
 refine tk 20 (.bool true) rfl HSS ?_
 go_simp
 refine tk 21 (.bool true) rfl HSS ?_
 go_simp
 refine tk 22 (.bool true) rfl HSS ?_
 go_simp
 refine tk 23 (.bool true) rfl HSS ?_
 go_simp
 refine tu 24 rfl HSS ?_
 go_simp
 refine tu 25 rfl HSS ?_
 go_simp
 refine tu 26 rfl HSS ?_
 go_simp
 refine tk 27 (.bool true) rfl HSS ?_
 go_simp
 refine tk 28 (.bool true) rfl HSS ?_
 go_simp
 refine tu 29 rfl HSS ?_
 go_simp
 refine tu 30 rfl HSS ?_
 go_simp
 refine tu 31 rfl HSS ?_
 go_simp
 refine tk 32 (.bool true) rfl HSS ?_
 go_simp
 refine tk 33 (.bool true) rfl HSS ?_
 go_simp
 refine tu 34 rfl HSS ?_
 go_simp
 refine tu 35 rfl HSS ?_
 go_simp
 refine tu 36 rfl HSS ?_
 go_simp
 refine tu 37 rfl HSS ?_
 go_simp
 refine tu 38 rfl HSS ?_
 go_simp
 refine tu 39 rfl HSS ?_
 go_simp
 refine tu 40 rfl HSS ?_
 go_simp
 refine tu 41 rfl HSS ?_
 go_simp
 refine tu 42 rfl HSS ?_
 go_simp
 refine tk 43 (.bool true) rfl HSS ?_
 go_simp
 refine tk 44 (.bool true) rfl HSS ?_
 go_simp
 refine tu 45 rfl HSS ?_
 go_simp
 refine tu 46 rfl HSS ?_
 go_simp
 refine tu 47 rfl HSS ?_
 go_simp
 refine tu 48 rfl HSS ?_
 go_simp
 refine tu 49 rfl HSS ?_
 go_simp
 refine tu 50 rfl HSS ?_
 go_simp
 refine tu 51 rfl HSS ?_
 go_simp
 refine tu 52 rfl HSS ?_
 go_simp
 refine tu 53 rfl HSS ?_
 go_simp
 refine tk 54 (.bool true) rfl HSS ?_
 go_simp
 refine wpAnyH_done (by kernel_rfl) ?_ _
 exact HI.out _ _ _ _ _ _ _ _ _ _ _ _ _ _ _ _ _ _ _ _ _ _ _ _ _ _ _ _ _ _ _ _ _ _ _ _ _ _ _ _ _ _ _ _ _ _ _ _ _ _ _ _ _ _ _ _ ⟨by rw[HR.out],(Below.refl w5.heap.size w5).drew⟩
theorem leafB1 (op n:Int) (name src f:ByteArray) (Ac Ae Ab Al:Option Addr) (nc cc ne ce nb cb nl cl:Nat) (w w5:World)
  (oknf:okS f) (hx5:IsBlk w5 w.heap.size 65 #[.int .i64 op,.string name,.string src,.int .i64 n,.slice Ac nc cc,.slice Ae ne ce,.slice Ab nb cb,.slice Al nl cl]) (j3:inB f 99=hC op) (j4:inB f 78=hM op) (j5:inB f 98=hB op) (j6:inB f 101=hE op) (hc:hC op=false) (hm:hM op=false) (hb:hB op=false) (he:hE op=false) (hc0:¬ (0<nc)) (hnz:¬ (n≠0)) (hb0:0<nb) :
  SigB op n f nc nb nl w w5:=by
 unfold SigB
 intros
 rename_i hI
 conv=>arg 2;whnf
 have HI:=Lhd hI
 clear hI
 have HR:Hid (tB op n nc nb nl=true):=Lhd (by unfold tB;rw[hc,hm,hb,he];simp;omega)
 rw[hc] at j3
 have HC:=Lhd (fun W=>in_at f 99 99 _ oknf rfl j3 W)
 rw[hm] at j4
 have HM:=Lhd (fun W=>in_at f 78 78 _ oknf rfl j4 W)
 rw[hb] at j5
 have HBb:=Lhd (fun W=>in_at f 98 98 _ oknf rfl j5 W)
 rw[he] at j6
 have HEe:=Lhd (fun W=>in_at f 101 101 _ oknf rfl j6 W)
 clear j3 j4 j5 j6 hc hm hb he oknf
 obtain⟨z0,z1,z2,z3,z4,z5,z6,z7,zl⟩:=stBox' hx5
 clear hx5
 have d0:decide ((0:Int)<(nc:Int))=false:=by simp;omega
 have d8:decide ((8:Int)<(nc:Int))=false:=by simp;omega
 have hn0:n=0:=by omega
 have Hn0:=Lhd hn0
 have dz:(n !=0)=false:=by rw[hn0];rfl
 have dn:decide (n<0)=false:=by simp;omega
 have dm:decide ((1000:Int)<n)=false:=by simp;omega
 clear hn0
 have db:decide ((0:Int)<(nb:Int))=true:=by simp;omega
 clear hnz
 have HSS:(fun W=>W.cell? ⟨w.heap.size,3,none⟩=some (.int .i64 n)∧W.cell? ⟨w.heap.size,4,none⟩=some (.slice Ac nc cc)∧W.cell? ⟨w.heap.size,6,none⟩=some (.slice Ab nb cb)∧W.cell? ⟨w.heap.size,7,none⟩=some (.slice Al nl cl)) w5.drew:=⟨z3,z4,z6,z7⟩
 refine wp_region_held (S:=(fun W=>W.cell? ⟨w.heap.size,3,none⟩=some (.int .i64 n)∧W.cell? ⟨w.heap.size,4,none⟩=some (.slice Ac nc cc)∧W.cell? ⟨w.heap.size,6,none⟩=some (.slice Ab nb cb)∧W.cell? ⟨w.heap.size,7,none⟩=some (.slice Al nl cl))) (by kernel_rfl) ?_
 change wpAnyH _ _ _ _ _ _ _ _ (World.drew _)
 refine tk 0 (.string f) rfl HSS ?_
 go_simp
 refine tk 2 (.pointer (some ⟨w.heap.size,4,none⟩)) rfl HSS ?_
 go_simp
 refine tk 3 (.slice Ac nc cc) rfl HSS ?_
 go_simp
 refine tk 4 (.int .i64 (nc:Int)) rfl HSS ?_
 go_simp
 refine tk 5 (.bool false) rfl HSS ?_
 go_simp
 refine wpAnyH_ready (rs:=[1]) (by kernel_rfl) (by simp) ?_
 refine AllReadyH.cons rfl (fun K hK=>?_) AllReadyH.nil
 go_simp
 refine(HC.out _).mono ?_
 rintro e w' ⟨rfl,rfl⟩
 go_simp
 refine hK.out _ _ HSS (fun _=>?_);clear hK K
 refine tk 6 (.bool false) rfl HSS ?_
 go_simp
 refine tk 7 (.bool false) rfl HSS ?_
 go_simp
 refine tk 8 (.pointer (some ⟨w.heap.size,4,none⟩)) rfl HSS ?_
 go_simp
 refine tk 9 (.slice Ac nc cc) rfl HSS ?_
 go_simp
 refine tk 10 (.int .i64 (nc:Int)) rfl HSS ?_
 go_simp
 refine tk 11 (.bool false) rfl HSS ?_
 go_simp
 refine tk 12 (.bool false) rfl HSS ?_
 go_simp
 refine tk 13 (.bool false) rfl HSS ?_
 go_simp
 refine tk 14 (.string f) rfl HSS ?_
 go_simp
 refine wpAnyH_ready (rs:=[15]) (by kernel_rfl) (by simp) ?_
 refine AllReadyH.cons rfl (fun K hK=>?_) AllReadyH.nil
 go_simp
 refine(HM.out _).mono ?_
 rintro e w' ⟨rfl,rfl⟩
 go_simp
 refine hK.out _ _ HSS (fun _=>?_);clear hK K
 refine tk 16 (.bool true) rfl HSS ?_
 go_simp
 refine tk 17 (.bool true) rfl HSS ?_
 go_simp
 refine tk 18 (.pointer (some ⟨w.heap.size,3,none⟩)) rfl HSS ?_
 go_simp
 refine tk 19 (.int .i64 n) rfl HSS ?_
 go_simp
 refine tk 20 (.bool false) rfl HSS ?_
 go_simp
 refine tk 21 (.bool false) rfl HSS ?_
 go_simp
 refine tk 22 (.bool false) rfl HSS ?_
 go_simp
 refine tk 23 (.bool false) rfl HSS ?_
 go_simp
 refine tk 24 (.pointer (some ⟨w.heap.size,3,none⟩)) rfl HSS ?_
 go_simp
 refine tk 25 (.int .i64 n) rfl HSS ?_
 go_simp
 refine tk 26 (.bool false) rfl HSS ?_
 go_simp
 refine tk 27 (.bool false) rfl HSS ?_
 go_simp
 refine tk 28 (.bool false) rfl HSS ?_
 go_simp
 refine tk 29 (.pointer (some ⟨w.heap.size,3,none⟩)) rfl HSS ?_
 go_simp
 refine tk 30 (.int .i64 n) rfl HSS ?_
 go_simp
 refine tk 31 (.bool false) rfl HSS ?_
 go_simp
 refine tk 32 (.bool false) rfl HSS ?_
 go_simp
 refine tk 33 (.bool false) rfl HSS ?_
 go_simp
 refine tk 34 (.string f) rfl HSS ?_
 go_simp
 refine wpAnyH_ready (rs:=[35]) (by kernel_rfl) (by simp) ?_
 refine AllReadyH.cons rfl (fun K hK=>?_) AllReadyH.nil
 go_simp
 refine(HBb.out _).mono ?_
 rintro e w' ⟨rfl,rfl⟩
 go_simp
 refine hK.out _ _ HSS (fun _=>?_);clear hK K
 refine tk 36 (.bool true) rfl HSS ?_
 go_simp
 refine tk 37 (.bool true) rfl HSS ?_
 go_simp
 refine tk 38 (.pointer (some ⟨w.heap.size,6,none⟩)) rfl HSS ?_
 go_simp
 refine tk 39 (.slice Ab nb cb) rfl HSS ?_
 go_simp
 refine tk 40 (.int .i64 (nb:Int)) rfl HSS ?_
 go_simp
 refine tk 41 (.bool true) rfl HSS ?_
 go_simp
 refine tk 42 (.bool true) rfl HSS ?_
 go_simp
 refine tk 43 (.bool true) rfl HSS ?_
 go_simp
 refine tk 44 (.bool true) rfl HSS ?_
 go_simp
 refine tu 45 rfl HSS ?_
 go_simp
 refine tu 46 rfl HSS ?_
 go_simp
 refine tu 47 rfl HSS ?_
 go_simp
 refine tu 48 rfl HSS ?_
 go_simp
 refine tu 49 rfl HSS ?_
 go_simp
 refine tu 50 rfl HSS ?_
 go_simp
 refine tu 51 rfl HSS ?_
 go_simp
 refine tu 52 rfl HSS ?_
 go_simp
 refine tu 53 rfl HSS ?_
 go_simp
 refine tk 54 (.bool true) rfl HSS ?_
 go_simp
 refine wpAnyH_done (by kernel_rfl) ?_ _
 exact HI.out _ _ _ _ _ _ _ _ _ _ _ _ _ _ _ _ _ _ _ _ _ _ _ _ _ _ _ _ _ _ _ _ _ _ _ _ _ _ _ _ _ _ _ _ _ _ _ _ _ _ _ _ _ _ _ _ ⟨by rw[HR.out],(Below.refl w5.heap.size w5).drew⟩
theorem leafB2 (op n:Int) (name src f:ByteArray) (Ac Ae Ab Al:Option Addr) (nc cc ne ce nb cb nl cl:Nat) (w w5:World)
  (oknf:okS f) (hx5:IsBlk w5 w.heap.size 65 #[.int .i64 op,.string name,.string src,.int .i64 n,.slice Ac nc cc,.slice Ae ne ce,.slice Ab nb cb,.slice Al nl cl]) (j3:inB f 99=hC op) (j4:inB f 78=hM op) (j5:inB f 98=hB op) (j6:inB f 101=hE op) (hc:hC op=false) (hm:hM op=false) (hb:hB op=false) (he:hE op=false) (hc0:¬ (0<nc)) (hnz:¬ (n≠0)) (hb0:¬ (0<nb)) (he0:0<nl) :
  SigB op n f nc nb nl w w5:=by
 unfold SigB
 intros
 rename_i hI
 conv=>arg 2;whnf
 have HI:=Lhd hI
 clear hI
 have HR:Hid (tB op n nc nb nl=true):=Lhd (by unfold tB;rw[hc,hm,hb,he];simp;omega)
 rw[hc] at j3
 have HC:=Lhd (fun W=>in_at f 99 99 _ oknf rfl j3 W)
 rw[hm] at j4
 have HM:=Lhd (fun W=>in_at f 78 78 _ oknf rfl j4 W)
 rw[hb] at j5
 have HBb:=Lhd (fun W=>in_at f 98 98 _ oknf rfl j5 W)
 rw[he] at j6
 have HEe:=Lhd (fun W=>in_at f 101 101 _ oknf rfl j6 W)
 clear j3 j4 j5 j6 hc hm hb he oknf
 obtain⟨z0,z1,z2,z3,z4,z5,z6,z7,zl⟩:=stBox' hx5
 clear hx5
 have d0:decide ((0:Int)<(nc:Int))=false:=by simp;omega
 have d8:decide ((8:Int)<(nc:Int))=false:=by simp;omega
 have hn0:n=0:=by omega
 have Hn0:=Lhd hn0
 have dz:(n !=0)=false:=by rw[hn0];rfl
 have dn:decide (n<0)=false:=by simp;omega
 have dm:decide ((1000:Int)<n)=false:=by simp;omega
 clear hn0
 have db:decide ((0:Int)<(nb:Int))=false:=by simp;omega
 have de:decide ((0:Int)<(nl:Int))=true:=by simp;omega
 clear hnz
 have HSS:(fun W=>W.cell? ⟨w.heap.size,3,none⟩=some (.int .i64 n)∧W.cell? ⟨w.heap.size,4,none⟩=some (.slice Ac nc cc)∧W.cell? ⟨w.heap.size,6,none⟩=some (.slice Ab nb cb)∧W.cell? ⟨w.heap.size,7,none⟩=some (.slice Al nl cl)) w5.drew:=⟨z3,z4,z6,z7⟩
 refine wp_region_held (S:=(fun W=>W.cell? ⟨w.heap.size,3,none⟩=some (.int .i64 n)∧W.cell? ⟨w.heap.size,4,none⟩=some (.slice Ac nc cc)∧W.cell? ⟨w.heap.size,6,none⟩=some (.slice Ab nb cb)∧W.cell? ⟨w.heap.size,7,none⟩=some (.slice Al nl cl))) (by kernel_rfl) ?_
 change wpAnyH _ _ _ _ _ _ _ _ (World.drew _)
 refine tk 0 (.string f) rfl HSS ?_
 go_simp
 refine tk 2 (.pointer (some ⟨w.heap.size,4,none⟩)) rfl HSS ?_
 go_simp
 refine tk 3 (.slice Ac nc cc) rfl HSS ?_
 go_simp
 refine tk 4 (.int .i64 (nc:Int)) rfl HSS ?_
 go_simp
 refine tk 5 (.bool false) rfl HSS ?_
 go_simp
 refine wpAnyH_ready (rs:=[1]) (by kernel_rfl) (by simp) ?_
 refine AllReadyH.cons rfl (fun K hK=>?_) AllReadyH.nil
 go_simp
 refine(HC.out _).mono ?_
 rintro e w' ⟨rfl,rfl⟩
 go_simp
 refine hK.out _ _ HSS (fun _=>?_);clear hK K
 refine tk 6 (.bool false) rfl HSS ?_
 go_simp
 refine tk 7 (.bool false) rfl HSS ?_
 go_simp
 refine tk 8 (.pointer (some ⟨w.heap.size,4,none⟩)) rfl HSS ?_
 go_simp
 refine tk 9 (.slice Ac nc cc) rfl HSS ?_
 go_simp
 refine tk 10 (.int .i64 (nc:Int)) rfl HSS ?_
 go_simp
 refine tk 11 (.bool false) rfl HSS ?_
 go_simp
 refine tk 12 (.bool false) rfl HSS ?_
 go_simp
 refine tk 13 (.bool false) rfl HSS ?_
 go_simp
 refine tk 14 (.string f) rfl HSS ?_
 go_simp
 refine wpAnyH_ready (rs:=[15]) (by kernel_rfl) (by simp) ?_
 refine AllReadyH.cons rfl (fun K hK=>?_) AllReadyH.nil
 go_simp
 refine(HM.out _).mono ?_
 rintro e w' ⟨rfl,rfl⟩
 go_simp
 refine hK.out _ _ HSS (fun _=>?_);clear hK K
 refine tk 16 (.bool true) rfl HSS ?_
 go_simp
 refine tk 17 (.bool true) rfl HSS ?_
 go_simp
 refine tk 18 (.pointer (some ⟨w.heap.size,3,none⟩)) rfl HSS ?_
 go_simp
 refine tk 19 (.int .i64 n) rfl HSS ?_
 go_simp
 refine tk 20 (.bool false) rfl HSS ?_
 go_simp
 refine tk 21 (.bool false) rfl HSS ?_
 go_simp
 refine tk 22 (.bool false) rfl HSS ?_
 go_simp
 refine tk 23 (.bool false) rfl HSS ?_
 go_simp
 refine tk 24 (.pointer (some ⟨w.heap.size,3,none⟩)) rfl HSS ?_
 go_simp
 refine tk 25 (.int .i64 n) rfl HSS ?_
 go_simp
 refine tk 26 (.bool false) rfl HSS ?_
 go_simp
 refine tk 27 (.bool false) rfl HSS ?_
 go_simp
 refine tk 28 (.bool false) rfl HSS ?_
 go_simp
 refine tk 29 (.pointer (some ⟨w.heap.size,3,none⟩)) rfl HSS ?_
 go_simp
 refine tk 30 (.int .i64 n) rfl HSS ?_
 go_simp
 refine tk 31 (.bool false) rfl HSS ?_
 go_simp
 refine tk 32 (.bool false) rfl HSS ?_
 go_simp
 refine tk 33 (.bool false) rfl HSS ?_
 go_simp
 refine tk 34 (.string f) rfl HSS ?_
 go_simp
 refine wpAnyH_ready (rs:=[35]) (by kernel_rfl) (by simp) ?_
 refine AllReadyH.cons rfl (fun K hK=>?_) AllReadyH.nil
 go_simp
 refine(HBb.out _).mono ?_
 rintro e w' ⟨rfl,rfl⟩
 go_simp
 refine hK.out _ _ HSS (fun _=>?_);clear hK K
 refine tk 36 (.bool true) rfl HSS ?_
 go_simp
 refine tk 37 (.bool true) rfl HSS ?_
 go_simp
 refine tk 38 (.pointer (some ⟨w.heap.size,6,none⟩)) rfl HSS ?_
 go_simp
 refine tk 39 (.slice Ab nb cb) rfl HSS ?_
 go_simp
 refine tk 40 (.int .i64 (nb:Int)) rfl HSS ?_
 go_simp
 refine tk 41 (.bool false) rfl HSS ?_
 go_simp
 refine tk 42 (.bool false) rfl HSS ?_
 go_simp
 refine tk 43 (.bool false) rfl HSS ?_
 go_simp
 refine tk 44 (.bool false) rfl HSS ?_
 go_simp
 refine tk 45 (.string f) rfl HSS ?_
 go_simp
 refine wpAnyH_ready (rs:=[46]) (by kernel_rfl) (by simp) ?_
 refine AllReadyH.cons rfl (fun K hK=>?_) AllReadyH.nil
 go_simp
 refine(HEe.out _).mono ?_
 rintro e w' ⟨rfl,rfl⟩
 go_simp
 refine hK.out _ _ HSS (fun _=>?_);clear hK K
 refine tk 47 (.bool true) rfl HSS ?_
 go_simp
 refine tk 48 (.bool true) rfl HSS ?_
 go_simp
 refine tk 49 (.pointer (some ⟨w.heap.size,7,none⟩)) rfl HSS ?_
 go_simp
 refine tk 50 (.slice Al nl cl) rfl HSS ?_
 go_simp
 refine tk 51 (.int .i64 (nl:Int)) rfl HSS ?_
 go_simp
 refine tk 52 (.bool true) rfl HSS ?_
 go_simp
 refine tk 53 (.bool true) rfl HSS ?_
 go_simp
 refine tk 54 (.bool true) rfl HSS ?_
 go_simp
 refine wpAnyH_done (by kernel_rfl) ?_ _
 exact HI.out _ _ _ _ _ _ _ _ _ _ _ _ _ _ _ _ _ _ _ _ _ _ _ _ _ _ _ _ _ _ _ _ _ _ _ _ _ _ _ _ _ _ _ _ _ _ _ _ _ _ _ _ _ _ _ _ ⟨by rw[HR.out],(Below.refl w5.heap.size w5).drew⟩
theorem leafB3 (op n:Int) (name src f:ByteArray) (Ac Ae Ab Al:Option Addr) (nc cc ne ce nb cb nl cl:Nat) (w w5:World)
  (oknf:okS f) (hx5:IsBlk w5 w.heap.size 65 #[.int .i64 op,.string name,.string src,.int .i64 n,.slice Ac nc cc,.slice Ae ne ce,.slice Ab nb cb,.slice Al nl cl]) (j3:inB f 99=hC op) (j4:inB f 78=hM op) (j5:inB f 98=hB op) (j6:inB f 101=hE op) (hc:hC op=false) (hm:hM op=false) (hb:hB op=false) (he:hE op=false) (hc0:¬ (0<nc)) (hnz:¬ (n≠0)) (hb0:¬ (0<nb)) (he0:¬ (0<nl)) :
  SigB op n f nc nb nl w w5:=by
 unfold SigB
 intros
 rename_i hI
 conv=>arg 2;whnf
 have HI:=Lhd hI
 clear hI
 have HR:Hid (tB op n nc nb nl=false):=Lhd (by unfold tB;rw[hc,hm,hb,he];simp;omega)
 rw[hc] at j3
 have HC:=Lhd (fun W=>in_at f 99 99 _ oknf rfl j3 W)
 rw[hm] at j4
 have HM:=Lhd (fun W=>in_at f 78 78 _ oknf rfl j4 W)
 rw[hb] at j5
 have HBb:=Lhd (fun W=>in_at f 98 98 _ oknf rfl j5 W)
 rw[he] at j6
 have HEe:=Lhd (fun W=>in_at f 101 101 _ oknf rfl j6 W)
 clear j3 j4 j5 j6 hc hm hb he oknf
 obtain⟨z0,z1,z2,z3,z4,z5,z6,z7,zl⟩:=stBox' hx5
 clear hx5
 have d0:decide ((0:Int)<(nc:Int))=false:=by simp;omega
 have d8:decide ((8:Int)<(nc:Int))=false:=by simp;omega
 have hn0:n=0:=by omega
 have Hn0:=Lhd hn0
 have dz:(n !=0)=false:=by rw[hn0];rfl
 have dn:decide (n<0)=false:=by simp;omega
 have dm:decide ((1000:Int)<n)=false:=by simp;omega
 clear hn0
 have db:decide ((0:Int)<(nb:Int))=false:=by simp;omega
 have de:decide ((0:Int)<(nl:Int))=false:=by simp;omega
 clear hnz
 have HSS:(fun W=>W.cell? ⟨w.heap.size,3,none⟩=some (.int .i64 n)∧W.cell? ⟨w.heap.size,4,none⟩=some (.slice Ac nc cc)∧W.cell? ⟨w.heap.size,6,none⟩=some (.slice Ab nb cb)∧W.cell? ⟨w.heap.size,7,none⟩=some (.slice Al nl cl)) w5.drew:=⟨z3,z4,z6,z7⟩
 refine wp_region_held (S:=(fun W=>W.cell? ⟨w.heap.size,3,none⟩=some (.int .i64 n)∧W.cell? ⟨w.heap.size,4,none⟩=some (.slice Ac nc cc)∧W.cell? ⟨w.heap.size,6,none⟩=some (.slice Ab nb cb)∧W.cell? ⟨w.heap.size,7,none⟩=some (.slice Al nl cl))) (by kernel_rfl) ?_
 change wpAnyH _ _ _ _ _ _ _ _ (World.drew _)
 refine tk 0 (.string f) rfl HSS ?_
 go_simp
 refine tk 2 (.pointer (some ⟨w.heap.size,4,none⟩)) rfl HSS ?_
 go_simp
 refine tk 3 (.slice Ac nc cc) rfl HSS ?_
 go_simp
 refine tk 4 (.int .i64 (nc:Int)) rfl HSS ?_
 go_simp
 refine tk 5 (.bool false) rfl HSS ?_
 go_simp
 refine wpAnyH_ready (rs:=[1]) (by kernel_rfl) (by simp) ?_
 refine AllReadyH.cons rfl (fun K hK=>?_) AllReadyH.nil
 go_simp
 refine(HC.out _).mono ?_
 rintro e w' ⟨rfl,rfl⟩
 go_simp
 refine hK.out _ _ HSS (fun _=>?_);clear hK K
 refine tk 6 (.bool false) rfl HSS ?_
 go_simp
 refine tk 7 (.bool false) rfl HSS ?_
 go_simp
 refine tk 8 (.pointer (some ⟨w.heap.size,4,none⟩)) rfl HSS ?_
 go_simp
 refine tk 9 (.slice Ac nc cc) rfl HSS ?_
 go_simp
 refine tk 10 (.int .i64 (nc:Int)) rfl HSS ?_
 go_simp
 refine tk 11 (.bool false) rfl HSS ?_
 go_simp
 refine tk 12 (.bool false) rfl HSS ?_
 go_simp
 refine tk 13 (.bool false) rfl HSS ?_
 go_simp
 refine tk 14 (.string f) rfl HSS ?_
 go_simp
 refine wpAnyH_ready (rs:=[15]) (by kernel_rfl) (by simp) ?_
 refine AllReadyH.cons rfl (fun K hK=>?_) AllReadyH.nil
 go_simp
 refine(HM.out _).mono ?_
 rintro e w' ⟨rfl,rfl⟩
 go_simp
 refine hK.out _ _ HSS (fun _=>?_);clear hK K
 refine tk 16 (.bool true) rfl HSS ?_
 go_simp
 refine tk 17 (.bool true) rfl HSS ?_
 go_simp
 refine tk 18 (.pointer (some ⟨w.heap.size,3,none⟩)) rfl HSS ?_
 go_simp
 refine tk 19 (.int .i64 n) rfl HSS ?_
 go_simp
 refine tk 20 (.bool false) rfl HSS ?_
 go_simp
 refine tk 21 (.bool false) rfl HSS ?_
 go_simp
 refine tk 22 (.bool false) rfl HSS ?_
 go_simp
 refine tk 23 (.bool false) rfl HSS ?_
 go_simp
 refine tk 24 (.pointer (some ⟨w.heap.size,3,none⟩)) rfl HSS ?_
 go_simp
 refine tk 25 (.int .i64 n) rfl HSS ?_
 go_simp
 refine tk 26 (.bool false) rfl HSS ?_
 go_simp
 refine tk 27 (.bool false) rfl HSS ?_
 go_simp
 refine tk 28 (.bool false) rfl HSS ?_
 go_simp
 refine tk 29 (.pointer (some ⟨w.heap.size,3,none⟩)) rfl HSS ?_
 go_simp
 refine tk 30 (.int .i64 n) rfl HSS ?_
 go_simp
 refine tk 31 (.bool false) rfl HSS ?_
 go_simp
 refine tk 32 (.bool false) rfl HSS ?_
 go_simp
 refine tk 33 (.bool false) rfl HSS ?_
 go_simp
 refine tk 34 (.string f) rfl HSS ?_
 go_simp
 refine wpAnyH_ready (rs:=[35]) (by kernel_rfl) (by simp) ?_
 refine AllReadyH.cons rfl (fun K hK=>?_) AllReadyH.nil
 go_simp
 refine(HBb.out _).mono ?_
 rintro e w' ⟨rfl,rfl⟩
 go_simp
 refine hK.out _ _ HSS (fun _=>?_);clear hK K
 refine tk 36 (.bool true) rfl HSS ?_
 go_simp
 refine tk 37 (.bool true) rfl HSS ?_
 go_simp
 refine tk 38 (.pointer (some ⟨w.heap.size,6,none⟩)) rfl HSS ?_
 go_simp
 refine tk 39 (.slice Ab nb cb) rfl HSS ?_
 go_simp
 refine tk 40 (.int .i64 (nb:Int)) rfl HSS ?_
 go_simp
 refine tk 41 (.bool false) rfl HSS ?_
 go_simp
 refine tk 42 (.bool false) rfl HSS ?_
 go_simp
 refine tk 43 (.bool false) rfl HSS ?_
 go_simp
 refine tk 44 (.bool false) rfl HSS ?_
 go_simp
 refine tk 45 (.string f) rfl HSS ?_
 go_simp
 refine wpAnyH_ready (rs:=[46]) (by kernel_rfl) (by simp) ?_
 refine AllReadyH.cons rfl (fun K hK=>?_) AllReadyH.nil
 go_simp
 refine(HEe.out _).mono ?_
 rintro e w' ⟨rfl,rfl⟩
 go_simp
 refine hK.out _ _ HSS (fun _=>?_);clear hK K
 refine tk 47 (.bool true) rfl HSS ?_
 go_simp
 refine tk 48 (.bool true) rfl HSS ?_
 go_simp
 refine tk 49 (.pointer (some ⟨w.heap.size,7,none⟩)) rfl HSS ?_
 go_simp
 refine tk 50 (.slice Al nl cl) rfl HSS ?_
 go_simp
 refine tk 51 (.int .i64 (nl:Int)) rfl HSS ?_
 go_simp
 refine tk 52 (.bool false) rfl HSS ?_
 go_simp
 refine tk 53 (.bool false) rfl HSS ?_
 go_simp
 refine tk 54 (.bool false) rfl HSS ?_
 go_simp
 refine wpAnyH_done (by kernel_rfl) ?_ _
 exact HI.out _ _ _ _ _ _ _ _ _ _ _ _ _ _ _ _ _ _ _ _ _ _ _ _ _ _ _ _ _ _ _ _ _ _ _ _ _ _ _ _ _ _ _ _ _ _ _ _ _ _ _ _ _ _ _ _ ⟨by rw[HR.out],(Below.refl w5.heap.size w5).drew⟩
theorem leafB4 (op n:Int) (name src f:ByteArray) (Ac Ae Ab Al:Option Addr) (nc cc ne ce nb cb nl cl:Nat) (w w5:World)
  (oknf:okS f) (hx5:IsBlk w5 w.heap.size 65 #[.int .i64 op,.string name,.string src,.int .i64 n,.slice Ac nc cc,.slice Ae ne ce,.slice Ab nb cb,.slice Al nl cl]) (j3:inB f 99=hC op) (j4:inB f 78=hM op) (j5:inB f 98=hB op) (j6:inB f 101=hE op) (hc:hC op=false) (hm:hM op=false) (hb:hB op=false) (he:hE op=false) (hc0:0<nc) :
  SigB op n f nc nb nl w w5:=by
 unfold SigB
 intros
 rename_i hI
 conv=>arg 2;whnf
 have HI:=Lhd hI
 clear hI
 have HR:Hid (tB op n nc nb nl=true):=Lhd (by unfold tB;rw[hc,hm,hb,he];simp;omega)
 rw[hc] at j3
 have HC:=Lhd (fun W=>in_at f 99 99 _ oknf rfl j3 W)
 rw[hm] at j4
 have HM:=Lhd (fun W=>in_at f 78 78 _ oknf rfl j4 W)
 rw[hb] at j5
 have HBb:=Lhd (fun W=>in_at f 98 98 _ oknf rfl j5 W)
 rw[he] at j6
 have HEe:=Lhd (fun W=>in_at f 101 101 _ oknf rfl j6 W)
 clear j3 j4 j5 j6 hc hm hb he oknf
 obtain⟨z0,z1,z2,z3,z4,z5,z6,z7,zl⟩:=stBox' hx5
 clear hx5
 have d0:decide ((0:Int)<(nc:Int))=true:=by simp;omega
 have HSS:(fun W=>W.cell? ⟨w.heap.size,3,none⟩=some (.int .i64 n)∧W.cell? ⟨w.heap.size,4,none⟩=some (.slice Ac nc cc)∧W.cell? ⟨w.heap.size,6,none⟩=some (.slice Ab nb cb)∧W.cell? ⟨w.heap.size,7,none⟩=some (.slice Al nl cl)) w5.drew:=⟨z3,z4,z6,z7⟩
 refine wp_region_held (S:=(fun W=>W.cell? ⟨w.heap.size,3,none⟩=some (.int .i64 n)∧W.cell? ⟨w.heap.size,4,none⟩=some (.slice Ac nc cc)∧W.cell? ⟨w.heap.size,6,none⟩=some (.slice Ab nb cb)∧W.cell? ⟨w.heap.size,7,none⟩=some (.slice Al nl cl))) (by kernel_rfl) ?_
 change wpAnyH _ _ _ _ _ _ _ _ (World.drew _)
 refine tk 0 (.string f) rfl HSS ?_
 go_simp
 refine tk 2 (.pointer (some ⟨w.heap.size,4,none⟩)) rfl HSS ?_
 go_simp
 refine tk 3 (.slice Ac nc cc) rfl HSS ?_
 go_simp
 refine tk 4 (.int .i64 (nc:Int)) rfl HSS ?_
 go_simp
 refine tk 5 (.bool true) rfl HSS ?_
 go_simp
 refine wpAnyH_ready (rs:=[1]) (by kernel_rfl) (by simp) ?_
 refine AllReadyH.cons rfl (fun K hK=>?_) AllReadyH.nil
 go_simp
 refine(HC.out _).mono ?_
 rintro e w' ⟨rfl,rfl⟩
 go_simp
 refine hK.out _ _ HSS (fun _=>?_);clear hK K
 refine tk 6 (.bool true) rfl HSS ?_
 go_simp
 refine tk 7 (.bool true) rfl HSS ?_
 go_simp
 refine tu 8 rfl HSS ?_
 go_simp
 refine tu 9 rfl HSS ?_
 go_simp
 refine tu 10 rfl HSS ?_
 go_simp
 refine tu 11 rfl HSS ?_
 go_simp
 refine tk 12 (.bool true) rfl HSS ?_
 go_simp
 refine tk 13 (.bool true) rfl HSS ?_
 go_simp
 refine tu 14 rfl HSS ?_
 go_simp
 refine tu 15 rfl HSS ?_
 go_simp
 refine tu 16 rfl HSS ?_
 go_simp
 refine tu 17 rfl HSS ?_
 go_simp
 refine tu 18 rfl HSS ?_
 go_simp
 refine tu 19 rfl HSS ?_
 go_simp
 refine tu 20 rfl HSS ?_
 go_simp
 refine tu 21 rfl HSS ?_
 go_simp
 refine tk 22 (.bool true) rfl HSS ?_
 go_simp
 refine tk 23 (.bool true) rfl HSS ?_
 go_simp
 refine tu 24 rfl HSS ?_
 go_simp
 refine tu 25 rfl HSS ?_
 go_simp
 refine tu 26 rfl HSS ?_
 go_simp
 refine tk 27 (.bool true) rfl HSS ?_
 go_simp
 refine tk 28 (.bool true) rfl HSS ?_
 go_simp
 refine tu 29 rfl HSS ?_
 go_simp
 refine tu 30 rfl HSS ?_
 go_simp
 refine tu 31 rfl HSS ?_
 go_simp
 refine tk 32 (.bool true) rfl HSS ?_
 go_simp
 refine tk 33 (.bool true) rfl HSS ?_
 go_simp
 refine tu 34 rfl HSS ?_
 go_simp
 refine tu 35 rfl HSS ?_
 go_simp
 refine tu 36 rfl HSS ?_
 go_simp
 refine tu 37 rfl HSS ?_
 go_simp
 refine tu 38 rfl HSS ?_
 go_simp
 refine tu 39 rfl HSS ?_
 go_simp
 refine tu 40 rfl HSS ?_
 go_simp
 refine tu 41 rfl HSS ?_
 go_simp
 refine tu 42 rfl HSS ?_
 go_simp
 refine tk 43 (.bool true) rfl HSS ?_
 go_simp
 refine tk 44 (.bool true) rfl HSS ?_
 go_simp
 refine tu 45 rfl HSS ?_
 go_simp
 refine tu 46 rfl HSS ?_
 go_simp
 refine tu 47 rfl HSS ?_
 go_simp
 refine tu 48 rfl HSS ?_
 go_simp
 refine tu 49 rfl HSS ?_
 go_simp
 refine tu 50 rfl HSS ?_
 go_simp
 refine tu 51 rfl HSS ?_
 go_simp
 refine tu 52 rfl HSS ?_
 go_simp
 refine tu 53 rfl HSS ?_
 go_simp
 refine tk 54 (.bool true) rfl HSS ?_
 go_simp
 refine wpAnyH_done (by kernel_rfl) ?_ _
 exact HI.out _ _ _ _ _ _ _ _ _ _ _ _ _ _ _ _ _ _ _ _ _ _ _ _ _ _ _ _ _ _ _ _ _ _ _ _ _ _ _ _ _ _ _ _ _ _ _ _ _ _ _ _ _ _ _ _ ⟨by rw[HR.out],(Below.refl w5.heap.size w5).drew⟩
theorem leafB5 (op n:Int) (name src f:ByteArray) (Ac Ae Ab Al:Option Addr) (nc cc ne ce nb cb nl cl:Nat) (w w5:World)
  (oknf:okS f) (hx5:IsBlk w5 w.heap.size 65 #[.int .i64 op,.string name,.string src,.int .i64 n,.slice Ac nc cc,.slice Ae ne ce,.slice Ab nb cb,.slice Al nl cl]) (j3:inB f 99=hC op) (j4:inB f 78=hM op) (j5:inB f 98=hB op) (j6:inB f 101=hE op) (hc:hC op=true) (hm:hM op=false) (hb:hB op=false) (he:hE op=false) (hc0:¬ (0<nc)) :
  SigB op n f nc nb nl w w5:=by
 unfold SigB
 intros
 rename_i hI
 conv=>arg 2;whnf
 have HI:=Lhd hI
 clear hI
 have HR:Hid (tB op n nc nb nl=true):=Lhd (by unfold tB;rw[hc,hm,hb,he];simp;omega)
 rw[hc] at j3
 have HC:=Lhd (fun W=>in_at f 99 99 _ oknf rfl j3 W)
 rw[hm] at j4
 have HM:=Lhd (fun W=>in_at f 78 78 _ oknf rfl j4 W)
 rw[hb] at j5
 have HBb:=Lhd (fun W=>in_at f 98 98 _ oknf rfl j5 W)
 rw[he] at j6
 have HEe:=Lhd (fun W=>in_at f 101 101 _ oknf rfl j6 W)
 clear j3 j4 j5 j6 hc hm hb he oknf
 obtain⟨z0,z1,z2,z3,z4,z5,z6,z7,zl⟩:=stBox' hx5
 clear hx5
 have d0:decide ((0:Int)<(nc:Int))=false:=by simp;omega
 have d8:decide ((8:Int)<(nc:Int))=false:=by simp;omega
 have HSS:(fun W=>W.cell? ⟨w.heap.size,3,none⟩=some (.int .i64 n)∧W.cell? ⟨w.heap.size,4,none⟩=some (.slice Ac nc cc)∧W.cell? ⟨w.heap.size,6,none⟩=some (.slice Ab nb cb)∧W.cell? ⟨w.heap.size,7,none⟩=some (.slice Al nl cl)) w5.drew:=⟨z3,z4,z6,z7⟩
 refine wp_region_held (S:=(fun W=>W.cell? ⟨w.heap.size,3,none⟩=some (.int .i64 n)∧W.cell? ⟨w.heap.size,4,none⟩=some (.slice Ac nc cc)∧W.cell? ⟨w.heap.size,6,none⟩=some (.slice Ab nb cb)∧W.cell? ⟨w.heap.size,7,none⟩=some (.slice Al nl cl))) (by kernel_rfl) ?_
 change wpAnyH _ _ _ _ _ _ _ _ (World.drew _)
 refine tk 0 (.string f) rfl HSS ?_
 go_simp
 refine tk 2 (.pointer (some ⟨w.heap.size,4,none⟩)) rfl HSS ?_
 go_simp
 refine tk 3 (.slice Ac nc cc) rfl HSS ?_
 go_simp
 refine tk 4 (.int .i64 (nc:Int)) rfl HSS ?_
 go_simp
 refine tk 5 (.bool false) rfl HSS ?_
 go_simp
 refine wpAnyH_ready (rs:=[1]) (by kernel_rfl) (by simp) ?_
 refine AllReadyH.cons rfl (fun K hK=>?_) AllReadyH.nil
 go_simp
 refine(HC.out _).mono ?_
 rintro e w' ⟨rfl,rfl⟩
 go_simp
 refine hK.out _ _ HSS (fun _=>?_);clear hK K
 refine tk 6 (.bool true) rfl HSS ?_
 go_simp
 refine tk 7 (.bool true) rfl HSS ?_
 go_simp
 refine tu 8 rfl HSS ?_
 go_simp
 refine tu 9 rfl HSS ?_
 go_simp
 refine tu 10 rfl HSS ?_
 go_simp
 refine tu 11 rfl HSS ?_
 go_simp
 refine tk 12 (.bool true) rfl HSS ?_
 go_simp
 refine tk 13 (.bool true) rfl HSS ?_
 go_simp
 refine tu 14 rfl HSS ?_
 go_simp
 refine tu 15 rfl HSS ?_
 go_simp
 refine tu 16 rfl HSS ?_
 go_simp
 refine tu 17 rfl HSS ?_
 go_simp
 refine tu 18 rfl HSS ?_
 go_simp
 refine tu 19 rfl HSS ?_
 go_simp
 refine tu 20 rfl HSS ?_
 go_simp
 refine tu 21 rfl HSS ?_
 go_simp
 refine tk 22 (.bool true) rfl HSS ?_
 go_simp
 refine tk 23 (.bool true) rfl HSS ?_
 go_simp
 refine tu 24 rfl HSS ?_
 go_simp
 refine tu 25 rfl HSS ?_
 go_simp
 refine tu 26 rfl HSS ?_
 go_simp
 refine tk 27 (.bool true) rfl HSS ?_
 go_simp
 refine tk 28 (.bool true) rfl HSS ?_
 go_simp
 refine tu 29 rfl HSS ?_
 go_simp
 refine tu 30 rfl HSS ?_
 go_simp
 refine tu 31 rfl HSS ?_
 go_simp
 refine tk 32 (.bool true) rfl HSS ?_
 go_simp
 refine tk 33 (.bool true) rfl HSS ?_
 go_simp
 refine tu 34 rfl HSS ?_
 go_simp
 refine tu 35 rfl HSS ?_
 go_simp
 refine tu 36 rfl HSS ?_
 go_simp
 refine tu 37 rfl HSS ?_
 go_simp
 refine tu 38 rfl HSS ?_
 go_simp
 refine tu 39 rfl HSS ?_
 go_simp
 refine tu 40 rfl HSS ?_
 go_simp
 refine tu 41 rfl HSS ?_
 go_simp
 refine tu 42 rfl HSS ?_
 go_simp
 refine tk 43 (.bool true) rfl HSS ?_
 go_simp
 refine tk 44 (.bool true) rfl HSS ?_
 go_simp
 refine tu 45 rfl HSS ?_
 go_simp
 refine tu 46 rfl HSS ?_
 go_simp
 refine tu 47 rfl HSS ?_
 go_simp
 refine tu 48 rfl HSS ?_
 go_simp
 refine tu 49 rfl HSS ?_
 go_simp
 refine tu 50 rfl HSS ?_
 go_simp
 refine tu 51 rfl HSS ?_
 go_simp
 refine tu 52 rfl HSS ?_
 go_simp
 refine tu 53 rfl HSS ?_
 go_simp
 refine tk 54 (.bool true) rfl HSS ?_
 go_simp
 refine wpAnyH_done (by kernel_rfl) ?_ _
 exact HI.out _ _ _ _ _ _ _ _ _ _ _ _ _ _ _ _ _ _ _ _ _ _ _ _ _ _ _ _ _ _ _ _ _ _ _ _ _ _ _ _ _ _ _ _ _ _ _ _ _ _ _ _ _ _ _ _ ⟨by rw[HR.out],(Below.refl w5.heap.size w5).drew⟩
theorem leafB6 (op n:Int) (name src f:ByteArray) (Ac Ae Ab Al:Option Addr) (nc cc ne ce nb cb nl cl:Nat) (w w5:World)
  (oknf:okS f) (hx5:IsBlk w5 w.heap.size 65 #[.int .i64 op,.string name,.string src,.int .i64 n,.slice Ac nc cc,.slice Ae ne ce,.slice Ab nb cb,.slice Al nl cl]) (j3:inB f 99=hC op) (j4:inB f 78=hM op) (j5:inB f 98=hB op) (j6:inB f 101=hE op) (hc:hC op=true) (hm:hM op=false) (hb:hB op=false) (he:hE op=false) (hc0:0<nc) (hc8:8<nc) :
  SigB op n f nc nb nl w w5:=by
 unfold SigB
 intros
 rename_i hI
 conv=>arg 2;whnf
 have HI:=Lhd hI
 clear hI
 have HR:Hid (tB op n nc nb nl=true):=Lhd (by unfold tB;rw[hc,hm,hb,he];simp;omega)
 rw[hc] at j3
 have HC:=Lhd (fun W=>in_at f 99 99 _ oknf rfl j3 W)
 rw[hm] at j4
 have HM:=Lhd (fun W=>in_at f 78 78 _ oknf rfl j4 W)
 rw[hb] at j5
 have HBb:=Lhd (fun W=>in_at f 98 98 _ oknf rfl j5 W)
 rw[he] at j6
 have HEe:=Lhd (fun W=>in_at f 101 101 _ oknf rfl j6 W)
 clear j3 j4 j5 j6 hc hm hb he oknf
 obtain⟨z0,z1,z2,z3,z4,z5,z6,z7,zl⟩:=stBox' hx5
 clear hx5
 have d0:decide ((0:Int)<(nc:Int))=true:=by simp;omega
 have d8:decide ((8:Int)<(nc:Int))=true:=by simp;omega
 have HSS:(fun W=>W.cell? ⟨w.heap.size,3,none⟩=some (.int .i64 n)∧W.cell? ⟨w.heap.size,4,none⟩=some (.slice Ac nc cc)∧W.cell? ⟨w.heap.size,6,none⟩=some (.slice Ab nb cb)∧W.cell? ⟨w.heap.size,7,none⟩=some (.slice Al nl cl)) w5.drew:=⟨z3,z4,z6,z7⟩
 refine wp_region_held (S:=(fun W=>W.cell? ⟨w.heap.size,3,none⟩=some (.int .i64 n)∧W.cell? ⟨w.heap.size,4,none⟩=some (.slice Ac nc cc)∧W.cell? ⟨w.heap.size,6,none⟩=some (.slice Ab nb cb)∧W.cell? ⟨w.heap.size,7,none⟩=some (.slice Al nl cl))) (by kernel_rfl) ?_
 change wpAnyH _ _ _ _ _ _ _ _ (World.drew _)
 refine tk 0 (.string f) rfl HSS ?_
 go_simp
 refine tk 2 (.pointer (some ⟨w.heap.size,4,none⟩)) rfl HSS ?_
 go_simp
 refine tk 3 (.slice Ac nc cc) rfl HSS ?_
 go_simp
 refine tk 4 (.int .i64 (nc:Int)) rfl HSS ?_
 go_simp
 refine tk 5 (.bool true) rfl HSS ?_
 go_simp
 refine wpAnyH_ready (rs:=[1]) (by kernel_rfl) (by simp) ?_
 refine AllReadyH.cons rfl (fun K hK=>?_) AllReadyH.nil
 go_simp
 refine(HC.out _).mono ?_
 rintro e w' ⟨rfl,rfl⟩
 go_simp
 refine hK.out _ _ HSS (fun _=>?_);clear hK K
 refine tk 6 (.bool false) rfl HSS ?_
 go_simp
 refine tk 7 (.bool false) rfl HSS ?_
 go_simp
 refine tk 8 (.pointer (some ⟨w.heap.size,4,none⟩)) rfl HSS ?_
 go_simp
 refine tk 9 (.slice Ac nc cc) rfl HSS ?_
 go_simp
 refine tk 10 (.int .i64 (nc:Int)) rfl HSS ?_
 go_simp
 refine tk 11 (.bool true) rfl HSS ?_
 go_simp
 refine tk 12 (.bool true) rfl HSS ?_
 go_simp
 refine tk 13 (.bool true) rfl HSS ?_
 go_simp
 refine tu 14 rfl HSS ?_
 go_simp
 refine tu 15 rfl HSS ?_
 go_simp
 refine tu 16 rfl HSS ?_
 go_simp
 refine tu 17 rfl HSS ?_
 go_simp
 refine tu 18 rfl HSS ?_
 go_simp
 refine tu 19 rfl HSS ?_
 go_simp
 refine tu 20 rfl HSS ?_
 go_simp
 refine tu 21 rfl HSS ?_
 go_simp
 refine tk 22 (.bool true) rfl HSS ?_
 go_simp
 refine tk 23 (.bool true) rfl HSS ?_
 go_simp
 refine tu 24 rfl HSS ?_
 go_simp
 refine tu 25 rfl HSS ?_
 go_simp
 refine tu 26 rfl HSS ?_
 go_simp
 refine tk 27 (.bool true) rfl HSS ?_
 go_simp
 refine tk 28 (.bool true) rfl HSS ?_
 go_simp
 refine tu 29 rfl HSS ?_
 go_simp
 refine tu 30 rfl HSS ?_
 go_simp
 refine tu 31 rfl HSS ?_
 go_simp
 refine tk 32 (.bool true) rfl HSS ?_
 go_simp
 refine tk 33 (.bool true) rfl HSS ?_
 go_simp
 refine tu 34 rfl HSS ?_
 go_simp
 refine tu 35 rfl HSS ?_
 go_simp
 refine tu 36 rfl HSS ?_
 go_simp
 refine tu 37 rfl HSS ?_
 go_simp
 refine tu 38 rfl HSS ?_
 go_simp
 refine tu 39 rfl HSS ?_
 go_simp
 refine tu 40 rfl HSS ?_
 go_simp
 refine tu 41 rfl HSS ?_
 go_simp
 refine tu 42 rfl HSS ?_
 go_simp
 refine tk 43 (.bool true) rfl HSS ?_
 go_simp
 refine tk 44 (.bool true) rfl HSS ?_
 go_simp
 refine tu 45 rfl HSS ?_
 go_simp
 refine tu 46 rfl HSS ?_
 go_simp
 refine tu 47 rfl HSS ?_
 go_simp
 refine tu 48 rfl HSS ?_
 go_simp
 refine tu 49 rfl HSS ?_
 go_simp
 refine tu 50 rfl HSS ?_
 go_simp
 refine tu 51 rfl HSS ?_
 go_simp
 refine tu 52 rfl HSS ?_
 go_simp
 refine tu 53 rfl HSS ?_
 go_simp
 refine tk 54 (.bool true) rfl HSS ?_
 go_simp
 refine wpAnyH_done (by kernel_rfl) ?_ _
 exact HI.out _ _ _ _ _ _ _ _ _ _ _ _ _ _ _ _ _ _ _ _ _ _ _ _ _ _ _ _ _ _ _ _ _ _ _ _ _ _ _ _ _ _ _ _ _ _ _ _ _ _ _ _ _ _ _ _ ⟨by rw[HR.out],(Below.refl w5.heap.size w5).drew⟩
end Go.Proofs.YtmfcmpnlipnopaaGreat
