/- Parts of this proof, one behind the other: RefHC, RefH1, RefH, Read, ReadL. -/
import Derived.Test.YtgihhkfppnhdpaaSp24
import Derived.Outline
import Derived.Test.YtgihhkfppnhdpaaSp26
import Derived.Test.YtgihhkfppnhdpaaSp27
import Derived.Deep.CutBlock
import Derived.Deep.DeepCutAuto
import Derived.Deep.QuietTactic
import Derived.Deep.RegionHeld3
import Derived.BigQuiet
import Derived.Test.YtgihhkfppnhdpaaSp1
import Derived.Deep.Slices
import Derived.ChangeSame
namespace Go.Proofs.Ytgihhkfppnhdpaa
open Go.RowKit Go.Afx

set_option maxRecDepth 1000000 in
set_option maxHeartbeats 8000000 in
theorem leafB13 (op n : Int) (name src f : ByteArray) (Ac Ae Ab Al : Option Addr) (nc cc ne ce nb cb nl cl : Nat) (w w5 : World)
    (oknf : okS f) (hx5 : IsBlk w5 w.heap.size 52 #[.int .i64 op, .string name, .string src, .int .i64 n, .slice Ac nc cc, .slice Ae ne ce, .slice Ab nb cb, .slice Al nl cl]) (j3 : inB f 99 = hC op) (j4 : inB f 78 = hM op) (j5 : inB f 98 = hB op) (j6 : inB f 101 = hE op) (hc : hC op = false) (hm : hM op = true) (hb : hB op = true) (he : hE op = false) (hc0 : ¬ (0 < nc)) (hng : ¬ (n < 0)) (hnm : ¬ (1000 < n)) (he0 : 0 < nl) :
    SigB op n f nc nb nl w w5 := by
  unfold SigB
  intros
  rename_i hI
  conv => arg 2; whnf
  have HI := Lib.hid hI
  clear hI
  have HR : Hid (tB op n nc nb nl = true) := Lib.hid (by unfold tB; rw [hc, hm, hb, he]; simp; omega)
  rw [hc] at j3
  have HC := Lib.hid (fun W => in_at f 99 99 _ oknf rfl j3 W)
  rw [hm] at j4
  have HM := Lib.hid (fun W => in_at f 78 78 _ oknf rfl j4 W)
  rw [hb] at j5
  have HBb := Lib.hid (fun W => in_at f 98 98 _ oknf rfl j5 W)
  rw [he] at j6
  have HEe := Lib.hid (fun W => in_at f 101 101 _ oknf rfl j6 W)
  clear j3 j4 j5 j6 hc hm hb he oknf
  obtain ⟨z0, z1, z2, z3, z4, z5, z6, z7, zl⟩ := stBox' hx5
  clear hx5
  have d0 : decide ((0 : Int) < (nc : Int)) = false := by simp; omega
  have d8 : decide ((8 : Int) < (nc : Int)) = false := by simp; omega
  have dn : decide (n < 0) = false := by simp; omega
  have dm : decide ((1000 : Int) < n) = false := by simp; omega
  have de : decide ((0 : Int) < (nl : Int)) = true := by simp; omega
  have HSS : (fun W => W.cell? ⟨w.heap.size, 3, none⟩ = some (.int .i64 n) ∧ W.cell? ⟨w.heap.size, 4, none⟩ = some (.slice Ac nc cc) ∧ W.cell? ⟨w.heap.size, 6, none⟩ = some (.slice Ab nb cb) ∧ W.cell? ⟨w.heap.size, 7, none⟩ = some (.slice Al nl cl)) w5.drew := ⟨z3, z4, z6, z7⟩
  refine wp_region_held (S := (fun W => W.cell? ⟨w.heap.size, 3, none⟩ = some (.int .i64 n) ∧ W.cell? ⟨w.heap.size, 4, none⟩ = some (.slice Ac nc cc) ∧ W.cell? ⟨w.heap.size, 6, none⟩ = some (.slice Ab nb cb) ∧ W.cell? ⟨w.heap.size, 7, none⟩ = some (.slice Al nl cl))) (by kernel_rfl) ?_
  change wpAnyH _ _ _ _ _ _ _ _ (World.drew _)
  refine tk 0 (.string f) rfl HSS ?_
  go_simp
  refine tk 2 (.pointer (some ⟨w.heap.size, 4, none⟩)) rfl HSS ?_
  go_simp
  refine tk 3 (.slice Ac nc cc) rfl HSS ?_
  go_simp
  refine tk 4 (.int .i64 (nc : Int)) rfl HSS ?_
  go_simp
  refine tk 5 (.bool false) rfl HSS ?_
  go_simp
  refine wpAnyH_ready (rs := [1]) (by kernel_rfl) (by simp) ?_
  refine AllReadyH.cons rfl (fun K hK => ?_) AllReadyH.nil
  go_simp
  refine (HC.out _).mono ?_
  rintro e w' ⟨rfl, rfl⟩
  go_simp
  refine hK.out _ _ HSS (fun _ => ?_); clear hK K
  refine tk 6 (.bool false) rfl HSS ?_
  go_simp
  refine tk 7 (.bool false) rfl HSS ?_
  go_simp
  refine tk 8 (.pointer (some ⟨w.heap.size, 4, none⟩)) rfl HSS ?_
  go_simp
  refine tk 9 (.slice Ac nc cc) rfl HSS ?_
  go_simp
  refine tk 10 (.int .i64 (nc : Int)) rfl HSS ?_
  go_simp
  refine tk 11 (.bool false) rfl HSS ?_
  go_simp
  refine tk 12 (.bool false) rfl HSS ?_
  go_simp
  refine tk 13 (.bool false) rfl HSS ?_
  go_simp
  refine tk 14 (.string f) rfl HSS ?_
  go_simp
  refine wpAnyH_ready (rs := [15]) (by kernel_rfl) (by simp) ?_
  refine AllReadyH.cons rfl (fun K hK => ?_) AllReadyH.nil
  go_simp
  refine (HM.out _).mono ?_
  rintro e w' ⟨rfl, rfl⟩
  go_simp
  refine hK.out _ _ HSS (fun _ => ?_); clear hK K
  refine tk 16 (.bool false) rfl HSS ?_
  go_simp
  refine tk 17 (.bool false) rfl HSS ?_
  go_simp
  refine tu 18 rfl HSS ?_
  go_simp
  refine tu 19 rfl HSS ?_
  go_simp
  refine tu 20 rfl HSS ?_
  go_simp
  refine tk 21 (.bool false) rfl HSS ?_
  go_simp
  refine tk 22 (.bool false) rfl HSS ?_
  go_simp
  refine tk 23 (.bool false) rfl HSS ?_
  go_simp
  refine tk 24 (.pointer (some ⟨w.heap.size, 3, none⟩)) rfl HSS ?_
  go_simp
  refine tk 25 (.int .i64 n) rfl HSS ?_
  go_simp
  refine tk 26 (.bool false) rfl HSS ?_
  go_simp
  refine tk 27 (.bool false) rfl HSS ?_
  go_simp
  refine tk 28 (.bool false) rfl HSS ?_
  go_simp
  refine tk 29 (.pointer (some ⟨w.heap.size, 3, none⟩)) rfl HSS ?_
  go_simp
  refine tk 30 (.int .i64 n) rfl HSS ?_
  go_simp
  refine tk 31 (.bool false) rfl HSS ?_
  go_simp
  refine tk 32 (.bool false) rfl HSS ?_
  go_simp
  refine tk 33 (.bool false) rfl HSS ?_
  go_simp
  refine tk 34 (.string f) rfl HSS ?_
  go_simp
  refine wpAnyH_ready (rs := [35]) (by kernel_rfl) (by simp) ?_
  refine AllReadyH.cons rfl (fun K hK => ?_) AllReadyH.nil
  go_simp
  refine (HBb.out _).mono ?_
  rintro e w' ⟨rfl, rfl⟩
  go_simp
  refine hK.out _ _ HSS (fun _ => ?_); clear hK K
  refine tk 36 (.bool false) rfl HSS ?_
  go_simp
  refine tk 37 (.bool false) rfl HSS ?_
  go_simp
  refine tu 38 rfl HSS ?_
  go_simp
  refine tu 39 rfl HSS ?_
  go_simp
  refine tu 40 rfl HSS ?_
  go_simp
  refine tu 41 rfl HSS ?_
  go_simp
  refine tk 42 (.bool false) rfl HSS ?_
  go_simp
  refine tk 43 (.bool false) rfl HSS ?_
  go_simp
  refine tk 44 (.bool false) rfl HSS ?_
  go_simp
  refine tk 45 (.string f) rfl HSS ?_
  go_simp
  refine wpAnyH_ready (rs := [46]) (by kernel_rfl) (by simp) ?_
  refine AllReadyH.cons rfl (fun K hK => ?_) AllReadyH.nil
  go_simp
  refine (HEe.out _).mono ?_
  rintro e w' ⟨rfl, rfl⟩
  go_simp
  refine hK.out _ _ HSS (fun _ => ?_); clear hK K
  refine tk 47 (.bool true) rfl HSS ?_
  go_simp
  refine tk 48 (.bool true) rfl HSS ?_
  go_simp
  refine tk 49 (.pointer (some ⟨w.heap.size, 7, none⟩)) rfl HSS ?_
  go_simp
  refine tk 50 (.slice Al nl cl) rfl HSS ?_
  go_simp
  refine tk 51 (.int .i64 (nl : Int)) rfl HSS ?_
  go_simp
  refine tk 52 (.bool true) rfl HSS ?_
  go_simp
  refine tk 53 (.bool true) rfl HSS ?_
  go_simp
  refine tk 54 (.bool true) rfl HSS ?_
  go_simp
  refine wpAnyH_done (by kernel_rfl) ?_ _
  exact HI.out _ _ _ _ _ _ _ _ _ _ _ _ _ _ _ _ _ _ _ _ _ _ _ _ _ _ _ _ _ _ _ _ _ _ _ _ _ _ _ _ _ _ _ _ _ _ _ _ _ _ _ _ _ _ _ _ ⟨by rw [HR.out], (Below.refl w5.heap.size w5).drew⟩

set_option maxRecDepth 1000000 in
set_option maxHeartbeats 8000000 in
theorem leafB14 (op n : Int) (name src f : ByteArray) (Ac Ae Ab Al : Option Addr) (nc cc ne ce nb cb nl cl : Nat) (w w5 : World)
    (oknf : okS f) (hx5 : IsBlk w5 w.heap.size 52 #[.int .i64 op, .string name, .string src, .int .i64 n, .slice Ac nc cc, .slice Ae ne ce, .slice Ab nb cb, .slice Al nl cl]) (j3 : inB f 99 = hC op) (j4 : inB f 78 = hM op) (j5 : inB f 98 = hB op) (j6 : inB f 101 = hE op) (hc : hC op = false) (hm : hM op = true) (hb : hB op = true) (he : hE op = false) (hc0 : ¬ (0 < nc)) (hng : ¬ (n < 0)) (hnm : ¬ (1000 < n)) (he0 : ¬ (0 < nl)) :
    SigB op n f nc nb nl w w5 := by
  unfold SigB
  intros
  rename_i hI
  conv => arg 2; whnf
  have HI := Lib.hid hI
  clear hI
  have HR : Hid (tB op n nc nb nl = false) := Lib.hid (by unfold tB; rw [hc, hm, hb, he]; simp; omega)
  rw [hc] at j3
  have HC := Lib.hid (fun W => in_at f 99 99 _ oknf rfl j3 W)
  rw [hm] at j4
  have HM := Lib.hid (fun W => in_at f 78 78 _ oknf rfl j4 W)
  rw [hb] at j5
  have HBb := Lib.hid (fun W => in_at f 98 98 _ oknf rfl j5 W)
  rw [he] at j6
  have HEe := Lib.hid (fun W => in_at f 101 101 _ oknf rfl j6 W)
  clear j3 j4 j5 j6 hc hm hb he oknf
  obtain ⟨z0, z1, z2, z3, z4, z5, z6, z7, zl⟩ := stBox' hx5
  clear hx5
  have d0 : decide ((0 : Int) < (nc : Int)) = false := by simp; omega
  have d8 : decide ((8 : Int) < (nc : Int)) = false := by simp; omega
  have dn : decide (n < 0) = false := by simp; omega
  have dm : decide ((1000 : Int) < n) = false := by simp; omega
  have de : decide ((0 : Int) < (nl : Int)) = false := by simp; omega
  have HSS : (fun W => W.cell? ⟨w.heap.size, 3, none⟩ = some (.int .i64 n) ∧ W.cell? ⟨w.heap.size, 4, none⟩ = some (.slice Ac nc cc) ∧ W.cell? ⟨w.heap.size, 6, none⟩ = some (.slice Ab nb cb) ∧ W.cell? ⟨w.heap.size, 7, none⟩ = some (.slice Al nl cl)) w5.drew := ⟨z3, z4, z6, z7⟩
  refine wp_region_held (S := (fun W => W.cell? ⟨w.heap.size, 3, none⟩ = some (.int .i64 n) ∧ W.cell? ⟨w.heap.size, 4, none⟩ = some (.slice Ac nc cc) ∧ W.cell? ⟨w.heap.size, 6, none⟩ = some (.slice Ab nb cb) ∧ W.cell? ⟨w.heap.size, 7, none⟩ = some (.slice Al nl cl))) (by kernel_rfl) ?_
  change wpAnyH _ _ _ _ _ _ _ _ (World.drew _)
  refine tk 0 (.string f) rfl HSS ?_
  go_simp
  refine tk 2 (.pointer (some ⟨w.heap.size, 4, none⟩)) rfl HSS ?_
  go_simp
  refine tk 3 (.slice Ac nc cc) rfl HSS ?_
  go_simp
  refine tk 4 (.int .i64 (nc : Int)) rfl HSS ?_
  go_simp
  refine tk 5 (.bool false) rfl HSS ?_
  go_simp
  refine wpAnyH_ready (rs := [1]) (by kernel_rfl) (by simp) ?_
  refine AllReadyH.cons rfl (fun K hK => ?_) AllReadyH.nil
  go_simp
  refine (HC.out _).mono ?_
  rintro e w' ⟨rfl, rfl⟩
  go_simp
  refine hK.out _ _ HSS (fun _ => ?_); clear hK K
  refine tk 6 (.bool false) rfl HSS ?_
  go_simp
  refine tk 7 (.bool false) rfl HSS ?_
  go_simp
  refine tk 8 (.pointer (some ⟨w.heap.size, 4, none⟩)) rfl HSS ?_
  go_simp
  refine tk 9 (.slice Ac nc cc) rfl HSS ?_
  go_simp
  refine tk 10 (.int .i64 (nc : Int)) rfl HSS ?_
  go_simp
  refine tk 11 (.bool false) rfl HSS ?_
  go_simp
  refine tk 12 (.bool false) rfl HSS ?_
  go_simp
  refine tk 13 (.bool false) rfl HSS ?_
  go_simp
  refine tk 14 (.string f) rfl HSS ?_
  go_simp
  refine wpAnyH_ready (rs := [15]) (by kernel_rfl) (by simp) ?_
  refine AllReadyH.cons rfl (fun K hK => ?_) AllReadyH.nil
  go_simp
  refine (HM.out _).mono ?_
  rintro e w' ⟨rfl, rfl⟩
  go_simp
  refine hK.out _ _ HSS (fun _ => ?_); clear hK K
  refine tk 16 (.bool false) rfl HSS ?_
  go_simp
  refine tk 17 (.bool false) rfl HSS ?_
  go_simp
  refine tu 18 rfl HSS ?_
  go_simp
  refine tu 19 rfl HSS ?_
  go_simp
  refine tu 20 rfl HSS ?_
  go_simp
  refine tk 21 (.bool false) rfl HSS ?_
  go_simp
  refine tk 22 (.bool false) rfl HSS ?_
  go_simp
  refine tk 23 (.bool false) rfl HSS ?_
  go_simp
  refine tk 24 (.pointer (some ⟨w.heap.size, 3, none⟩)) rfl HSS ?_
  go_simp
  refine tk 25 (.int .i64 n) rfl HSS ?_
  go_simp
  refine tk 26 (.bool false) rfl HSS ?_
  go_simp
  refine tk 27 (.bool false) rfl HSS ?_
  go_simp
  refine tk 28 (.bool false) rfl HSS ?_
  go_simp
  refine tk 29 (.pointer (some ⟨w.heap.size, 3, none⟩)) rfl HSS ?_
  go_simp
  refine tk 30 (.int .i64 n) rfl HSS ?_
  go_simp
  refine tk 31 (.bool false) rfl HSS ?_
  go_simp
  refine tk 32 (.bool false) rfl HSS ?_
  go_simp
  refine tk 33 (.bool false) rfl HSS ?_
  go_simp
  refine tk 34 (.string f) rfl HSS ?_
  go_simp
  refine wpAnyH_ready (rs := [35]) (by kernel_rfl) (by simp) ?_
  refine AllReadyH.cons rfl (fun K hK => ?_) AllReadyH.nil
  go_simp
  refine (HBb.out _).mono ?_
  rintro e w' ⟨rfl, rfl⟩
  go_simp
  refine hK.out _ _ HSS (fun _ => ?_); clear hK K
  refine tk 36 (.bool false) rfl HSS ?_
  go_simp
  refine tk 37 (.bool false) rfl HSS ?_
  go_simp
  refine tu 38 rfl HSS ?_
  go_simp
  refine tu 39 rfl HSS ?_
  go_simp
  refine tu 40 rfl HSS ?_
  go_simp
  refine tu 41 rfl HSS ?_
  go_simp
  refine tk 42 (.bool false) rfl HSS ?_
  go_simp
  refine tk 43 (.bool false) rfl HSS ?_
  go_simp
  refine tk 44 (.bool false) rfl HSS ?_
  go_simp
  refine tk 45 (.string f) rfl HSS ?_
  go_simp
  refine wpAnyH_ready (rs := [46]) (by kernel_rfl) (by simp) ?_
  refine AllReadyH.cons rfl (fun K hK => ?_) AllReadyH.nil
  go_simp
  refine (HEe.out _).mono ?_
  rintro e w' ⟨rfl, rfl⟩
  go_simp
  refine hK.out _ _ HSS (fun _ => ?_); clear hK K
  refine tk 47 (.bool true) rfl HSS ?_
  go_simp
  refine tk 48 (.bool true) rfl HSS ?_
  go_simp
  refine tk 49 (.pointer (some ⟨w.heap.size, 7, none⟩)) rfl HSS ?_
  go_simp
  refine tk 50 (.slice Al nl cl) rfl HSS ?_
  go_simp
  refine tk 51 (.int .i64 (nl : Int)) rfl HSS ?_
  go_simp
  refine tk 52 (.bool false) rfl HSS ?_
  go_simp
  refine tk 53 (.bool false) rfl HSS ?_
  go_simp
  refine tk 54 (.bool false) rfl HSS ?_
  go_simp
  refine wpAnyH_done (by kernel_rfl) ?_ _
  exact HI.out _ _ _ _ _ _ _ _ _ _ _ _ _ _ _ _ _ _ _ _ _ _ _ _ _ _ _ _ _ _ _ _ _ _ _ _ _ _ _ _ _ _ _ _ _ _ _ _ _ _ _ _ _ _ _ _ ⟨by rw [HR.out], (Below.refl w5.heap.size w5).drew⟩

set_option maxRecDepth 1000000 in
set_option maxHeartbeats 8000000 in
theorem leafB15 (op n : Int) (name src f : ByteArray) (Ac Ae Ab Al : Option Addr) (nc cc ne ce nb cb nl cl : Nat) (w w5 : World)
    (oknf : okS f) (hx5 : IsBlk w5 w.heap.size 52 #[.int .i64 op, .string name, .string src, .int .i64 n, .slice Ac nc cc, .slice Ae ne ce, .slice Ab nb cb, .slice Al nl cl]) (j3 : inB f 99 = hC op) (j4 : inB f 78 = hM op) (j5 : inB f 98 = hB op) (j6 : inB f 101 = hE op) (hc : hC op = false) (hm : hM op = true) (hb : hB op = true) (he : hE op = false) (hc0 : 0 < nc) :
    SigB op n f nc nb nl w w5 := by
  unfold SigB
  intros
  rename_i hI
  conv => arg 2; whnf
  have HI := Lib.hid hI
  clear hI
  have HR : Hid (tB op n nc nb nl = true) := Lib.hid (by unfold tB; rw [hc, hm, hb, he]; simp; omega)
  rw [hc] at j3
  have HC := Lib.hid (fun W => in_at f 99 99 _ oknf rfl j3 W)
  rw [hm] at j4
  have HM := Lib.hid (fun W => in_at f 78 78 _ oknf rfl j4 W)
  rw [hb] at j5
  have HBb := Lib.hid (fun W => in_at f 98 98 _ oknf rfl j5 W)
  rw [he] at j6
  have HEe := Lib.hid (fun W => in_at f 101 101 _ oknf rfl j6 W)
  clear j3 j4 j5 j6 hc hm hb he oknf
  obtain ⟨z0, z1, z2, z3, z4, z5, z6, z7, zl⟩ := stBox' hx5
  clear hx5
  have d0 : decide ((0 : Int) < (nc : Int)) = true := by simp; omega
  have HSS : (fun W => W.cell? ⟨w.heap.size, 3, none⟩ = some (.int .i64 n) ∧ W.cell? ⟨w.heap.size, 4, none⟩ = some (.slice Ac nc cc) ∧ W.cell? ⟨w.heap.size, 6, none⟩ = some (.slice Ab nb cb) ∧ W.cell? ⟨w.heap.size, 7, none⟩ = some (.slice Al nl cl)) w5.drew := ⟨z3, z4, z6, z7⟩
  refine wp_region_held (S := (fun W => W.cell? ⟨w.heap.size, 3, none⟩ = some (.int .i64 n) ∧ W.cell? ⟨w.heap.size, 4, none⟩ = some (.slice Ac nc cc) ∧ W.cell? ⟨w.heap.size, 6, none⟩ = some (.slice Ab nb cb) ∧ W.cell? ⟨w.heap.size, 7, none⟩ = some (.slice Al nl cl))) (by kernel_rfl) ?_
  change wpAnyH _ _ _ _ _ _ _ _ (World.drew _)
  refine tk 0 (.string f) rfl HSS ?_
  go_simp
  refine tk 2 (.pointer (some ⟨w.heap.size, 4, none⟩)) rfl HSS ?_
  go_simp
  refine tk 3 (.slice Ac nc cc) rfl HSS ?_
  go_simp
  refine tk 4 (.int .i64 (nc : Int)) rfl HSS ?_
  go_simp
  refine tk 5 (.bool true) rfl HSS ?_
  go_simp
  refine wpAnyH_ready (rs := [1]) (by kernel_rfl) (by simp) ?_
  refine AllReadyH.cons rfl (fun K hK => ?_) AllReadyH.nil
  go_simp
  refine (HC.out _).mono ?_
  rintro e w' ⟨rfl, rfl⟩
  go_simp
  refine hK.out _ _ HSS (fun _ => ?_); clear hK K
  refine tk 6 (.bool true) rfl HSS ?_
  go_simp
  refine tk 7 (.bool true) rfl HSS ?_
  go_simp
  refine tu 8 rfl HSS ?_
  go_simp
  refine tu 9 rfl HSS ?_
  go_simp
  refine tu 10 rfl HSS ?_
  go_simp
  refine tu 11 rfl HSS ?_
  go_simp
  refine tk 12 (.bool true) rfl HSS ?_
  go_simp
  refine tk 13 (.bool true) rfl HSS ?_
  go_simp
  refine tu 14 rfl HSS ?_
  go_simp
  refine tu 15 rfl HSS ?_
  go_simp
  refine tu 16 rfl HSS ?_
  go_simp
  refine tu 17 rfl HSS ?_
  go_simp
  refine tu 18 rfl HSS ?_
  go_simp
  refine tu 19 rfl HSS ?_
  go_simp
  refine tu 20 rfl HSS ?_
  go_simp
  refine tu 21 rfl HSS ?_
  go_simp
  refine tk 22 (.bool true) rfl HSS ?_
  go_simp
  refine tk 23 (.bool true) rfl HSS ?_
  go_simp
  refine tu 24 rfl HSS ?_
  go_simp
  refine tu 25 rfl HSS ?_
  go_simp
  refine tu 26 rfl HSS ?_
  go_simp
  refine tk 27 (.bool true) rfl HSS ?_
  go_simp
  refine tk 28 (.bool true) rfl HSS ?_
  go_simp
  refine tu 29 rfl HSS ?_
  go_simp
  refine tu 30 rfl HSS ?_
  go_simp
  refine tu 31 rfl HSS ?_
  go_simp
  refine tk 32 (.bool true) rfl HSS ?_
  go_simp
  refine tk 33 (.bool true) rfl HSS ?_
  go_simp
  refine tu 34 rfl HSS ?_
  go_simp
  refine tu 35 rfl HSS ?_
  go_simp
  refine tu 36 rfl HSS ?_
  go_simp
  refine tu 37 rfl HSS ?_
  go_simp
  refine tu 38 rfl HSS ?_
  go_simp
  refine tu 39 rfl HSS ?_
  go_simp
  refine tu 40 rfl HSS ?_
  go_simp
  refine tu 41 rfl HSS ?_
  go_simp
  refine tu 42 rfl HSS ?_
  go_simp
  refine tk 43 (.bool true) rfl HSS ?_
  go_simp
  refine tk 44 (.bool true) rfl HSS ?_
  go_simp
  refine tu 45 rfl HSS ?_
  go_simp
  refine tu 46 rfl HSS ?_
  go_simp
  refine tu 47 rfl HSS ?_
  go_simp
  refine tu 48 rfl HSS ?_
  go_simp
  refine tu 49 rfl HSS ?_
  go_simp
  refine tu 50 rfl HSS ?_
  go_simp
  refine tu 51 rfl HSS ?_
  go_simp
  refine tu 52 rfl HSS ?_
  go_simp
  refine tu 53 rfl HSS ?_
  go_simp
  refine tk 54 (.bool true) rfl HSS ?_
  go_simp
  refine wpAnyH_done (by kernel_rfl) ?_ _
  exact HI.out _ _ _ _ _ _ _ _ _ _ _ _ _ _ _ _ _ _ _ _ _ _ _ _ _ _ _ _ _ _ _ _ _ _ _ _ _ _ _ _ _ _ _ _ _ _ _ _ _ _ _ _ _ _ _ _ ⟨by rw [HR.out], (Below.refl w5.heap.size w5).drew⟩

set_option maxRecDepth 1000000 in
set_option maxHeartbeats 8000000 in
theorem leafB16 (op n : Int) (name src f : ByteArray) (Ac Ae Ab Al : Option Addr) (nc cc ne ce nb cb nl cl : Nat) (w w5 : World)
    (oknf : okS f) (hx5 : IsBlk w5 w.heap.size 52 #[.int .i64 op, .string name, .string src, .int .i64 n, .slice Ac nc cc, .slice Ae ne ce, .slice Ab nb cb, .slice Al nl cl]) (j3 : inB f 99 = hC op) (j4 : inB f 78 = hM op) (j5 : inB f 98 = hB op) (j6 : inB f 101 = hE op) (hc : hC op = false) (hm : hM op = false) (hb : hB op = true) (he : hE op = true) (hc0 : ¬ (0 < nc)) (hnz : n ≠ 0) :
    SigB op n f nc nb nl w w5 := by
  unfold SigB
  intros
  rename_i hI
  conv => arg 2; whnf
  have HI := Lib.hid hI
  clear hI
  have HR : Hid (tB op n nc nb nl = true) := Lib.hid (by unfold tB; rw [hc, hm, hb, he]; simp; omega)
  rw [hc] at j3
  have HC := Lib.hid (fun W => in_at f 99 99 _ oknf rfl j3 W)
  rw [hm] at j4
  have HM := Lib.hid (fun W => in_at f 78 78 _ oknf rfl j4 W)
  rw [hb] at j5
  have HBb := Lib.hid (fun W => in_at f 98 98 _ oknf rfl j5 W)
  rw [he] at j6
  have HEe := Lib.hid (fun W => in_at f 101 101 _ oknf rfl j6 W)
  clear j3 j4 j5 j6 hc hm hb he oknf
  obtain ⟨z0, z1, z2, z3, z4, z5, z6, z7, zl⟩ := stBox' hx5
  clear hx5
  have d0 : decide ((0 : Int) < (nc : Int)) = false := by simp; omega
  have d8 : decide ((8 : Int) < (nc : Int)) = false := by simp; omega
  have dz : (n != 0) = true := by simpa using hnz
  clear hnz
  have HSS : (fun W => W.cell? ⟨w.heap.size, 3, none⟩ = some (.int .i64 n) ∧ W.cell? ⟨w.heap.size, 4, none⟩ = some (.slice Ac nc cc) ∧ W.cell? ⟨w.heap.size, 6, none⟩ = some (.slice Ab nb cb) ∧ W.cell? ⟨w.heap.size, 7, none⟩ = some (.slice Al nl cl)) w5.drew := ⟨z3, z4, z6, z7⟩
  refine wp_region_held (S := (fun W => W.cell? ⟨w.heap.size, 3, none⟩ = some (.int .i64 n) ∧ W.cell? ⟨w.heap.size, 4, none⟩ = some (.slice Ac nc cc) ∧ W.cell? ⟨w.heap.size, 6, none⟩ = some (.slice Ab nb cb) ∧ W.cell? ⟨w.heap.size, 7, none⟩ = some (.slice Al nl cl))) (by kernel_rfl) ?_
  change wpAnyH _ _ _ _ _ _ _ _ (World.drew _)
  refine tk 0 (.string f) rfl HSS ?_
  go_simp
  refine tk 2 (.pointer (some ⟨w.heap.size, 4, none⟩)) rfl HSS ?_
  go_simp
  refine tk 3 (.slice Ac nc cc) rfl HSS ?_
  go_simp
  refine tk 4 (.int .i64 (nc : Int)) rfl HSS ?_
  go_simp
  refine tk 5 (.bool false) rfl HSS ?_
  go_simp
  refine wpAnyH_ready (rs := [1]) (by kernel_rfl) (by simp) ?_
  refine AllReadyH.cons rfl (fun K hK => ?_) AllReadyH.nil
  go_simp
  refine (HC.out _).mono ?_
  rintro e w' ⟨rfl, rfl⟩
  go_simp
  refine hK.out _ _ HSS (fun _ => ?_); clear hK K
  refine tk 6 (.bool false) rfl HSS ?_
  go_simp
  refine tk 7 (.bool false) rfl HSS ?_
  go_simp
  refine tk 8 (.pointer (some ⟨w.heap.size, 4, none⟩)) rfl HSS ?_
  go_simp
  refine tk 9 (.slice Ac nc cc) rfl HSS ?_
  go_simp
  refine tk 10 (.int .i64 (nc : Int)) rfl HSS ?_
  go_simp
  refine tk 11 (.bool false) rfl HSS ?_
  go_simp
  refine tk 12 (.bool false) rfl HSS ?_
  go_simp
  refine tk 13 (.bool false) rfl HSS ?_
  go_simp
  refine tk 14 (.string f) rfl HSS ?_
  go_simp
  refine wpAnyH_ready (rs := [15]) (by kernel_rfl) (by simp) ?_
  refine AllReadyH.cons rfl (fun K hK => ?_) AllReadyH.nil
  go_simp
  refine (HM.out _).mono ?_
  rintro e w' ⟨rfl, rfl⟩
  go_simp
  refine hK.out _ _ HSS (fun _ => ?_); clear hK K
  refine tk 16 (.bool true) rfl HSS ?_
  go_simp
  refine tk 17 (.bool true) rfl HSS ?_
  go_simp
  refine tk 18 (.pointer (some ⟨w.heap.size, 3, none⟩)) rfl HSS ?_
  go_simp
  refine tk 19 (.int .i64 n) rfl HSS ?_
  go_simp
  refine tk 20 (.bool true) rfl HSS ?_
  go_simp
  refine tk 21 (.bool true) rfl HSS ?_
  go_simp
  refine tk 22 (.bool true) rfl HSS ?_
  go_simp
  refine tk 23 (.bool true) rfl HSS ?_
  go_simp
  refine tu 24 rfl HSS ?_
  go_simp
  refine tu 25 rfl HSS ?_
  go_simp
  refine tu 26 rfl HSS ?_
  go_simp
  refine tk 27 (.bool true) rfl HSS ?_
  go_simp
  refine tk 28 (.bool true) rfl HSS ?_
  go_simp
  refine tu 29 rfl HSS ?_
  go_simp
  refine tu 30 rfl HSS ?_
  go_simp
  refine tu 31 rfl HSS ?_
  go_simp
  refine tk 32 (.bool true) rfl HSS ?_
  go_simp
  refine tk 33 (.bool true) rfl HSS ?_
  go_simp
  refine tu 34 rfl HSS ?_
  go_simp
  refine tu 35 rfl HSS ?_
  go_simp
  refine tu 36 rfl HSS ?_
  go_simp
  refine tu 37 rfl HSS ?_
  go_simp
  refine tu 38 rfl HSS ?_
  go_simp
  refine tu 39 rfl HSS ?_
  go_simp
  refine tu 40 rfl HSS ?_
  go_simp
  refine tu 41 rfl HSS ?_
  go_simp
  refine tu 42 rfl HSS ?_
  go_simp
  refine tk 43 (.bool true) rfl HSS ?_
  go_simp
  refine tk 44 (.bool true) rfl HSS ?_
  go_simp
  refine tu 45 rfl HSS ?_
  go_simp
  refine tu 46 rfl HSS ?_
  go_simp
  refine tu 47 rfl HSS ?_
  go_simp
  refine tu 48 rfl HSS ?_
  go_simp
  refine tu 49 rfl HSS ?_
  go_simp
  refine tu 50 rfl HSS ?_
  go_simp
  refine tu 51 rfl HSS ?_
  go_simp
  refine tu 52 rfl HSS ?_
  go_simp
  refine tu 53 rfl HSS ?_
  go_simp
  refine tk 54 (.bool true) rfl HSS ?_
  go_simp
  refine wpAnyH_done (by kernel_rfl) ?_ _
  exact HI.out _ _ _ _ _ _ _ _ _ _ _ _ _ _ _ _ _ _ _ _ _ _ _ _ _ _ _ _ _ _ _ _ _ _ _ _ _ _ _ _ _ _ _ _ _ _ _ _ _ _ _ _ _ _ _ _ ⟨by rw [HR.out], (Below.refl w5.heap.size w5).drew⟩

set_option maxRecDepth 1000000 in
set_option maxHeartbeats 8000000 in
theorem leafB17 (op n : Int) (name src f : ByteArray) (Ac Ae Ab Al : Option Addr) (nc cc ne ce nb cb nl cl : Nat) (w w5 : World)
    (oknf : okS f) (hx5 : IsBlk w5 w.heap.size 52 #[.int .i64 op, .string name, .string src, .int .i64 n, .slice Ac nc cc, .slice Ae ne ce, .slice Ab nb cb, .slice Al nl cl]) (j3 : inB f 99 = hC op) (j4 : inB f 78 = hM op) (j5 : inB f 98 = hB op) (j6 : inB f 101 = hE op) (hc : hC op = false) (hm : hM op = false) (hb : hB op = true) (he : hE op = true) (hc0 : ¬ (0 < nc)) (hnz : ¬ (n ≠ 0)) :
    SigB op n f nc nb nl w w5 := by
  unfold SigB
  intros
  rename_i hI
  conv => arg 2; whnf
  have HI := Lib.hid hI
  clear hI
  have HR : Hid (tB op n nc nb nl = false) := Lib.hid (by unfold tB; rw [hc, hm, hb, he]; simp; omega)
  rw [hc] at j3
  have HC := Lib.hid (fun W => in_at f 99 99 _ oknf rfl j3 W)
  rw [hm] at j4
  have HM := Lib.hid (fun W => in_at f 78 78 _ oknf rfl j4 W)
  rw [hb] at j5
  have HBb := Lib.hid (fun W => in_at f 98 98 _ oknf rfl j5 W)
  rw [he] at j6
  have HEe := Lib.hid (fun W => in_at f 101 101 _ oknf rfl j6 W)
  clear j3 j4 j5 j6 hc hm hb he oknf
  obtain ⟨z0, z1, z2, z3, z4, z5, z6, z7, zl⟩ := stBox' hx5
  clear hx5
  have d0 : decide ((0 : Int) < (nc : Int)) = false := by simp; omega
  have d8 : decide ((8 : Int) < (nc : Int)) = false := by simp; omega
  have hn0 : n = 0 := by omega
  have Hn0 := Lib.hid hn0
  have dz : (n != 0) = false := by rw [hn0]; rfl
  have dn : decide (n < 0) = false := by simp; omega
  have dm : decide ((1000 : Int) < n) = false := by simp; omega
  clear hn0
  clear hnz
  have HSS : (fun W => W.cell? ⟨w.heap.size, 3, none⟩ = some (.int .i64 n) ∧ W.cell? ⟨w.heap.size, 4, none⟩ = some (.slice Ac nc cc) ∧ W.cell? ⟨w.heap.size, 6, none⟩ = some (.slice Ab nb cb) ∧ W.cell? ⟨w.heap.size, 7, none⟩ = some (.slice Al nl cl)) w5.drew := ⟨z3, z4, z6, z7⟩
  refine wp_region_held (S := (fun W => W.cell? ⟨w.heap.size, 3, none⟩ = some (.int .i64 n) ∧ W.cell? ⟨w.heap.size, 4, none⟩ = some (.slice Ac nc cc) ∧ W.cell? ⟨w.heap.size, 6, none⟩ = some (.slice Ab nb cb) ∧ W.cell? ⟨w.heap.size, 7, none⟩ = some (.slice Al nl cl))) (by kernel_rfl) ?_
  change wpAnyH _ _ _ _ _ _ _ _ (World.drew _)
  refine tk 0 (.string f) rfl HSS ?_
  go_simp
  refine tk 2 (.pointer (some ⟨w.heap.size, 4, none⟩)) rfl HSS ?_
  go_simp
  refine tk 3 (.slice Ac nc cc) rfl HSS ?_
  go_simp
  refine tk 4 (.int .i64 (nc : Int)) rfl HSS ?_
  go_simp
  refine tk 5 (.bool false) rfl HSS ?_
  go_simp
  refine wpAnyH_ready (rs := [1]) (by kernel_rfl) (by simp) ?_
  refine AllReadyH.cons rfl (fun K hK => ?_) AllReadyH.nil
  go_simp
  refine (HC.out _).mono ?_
  rintro e w' ⟨rfl, rfl⟩
  go_simp
  refine hK.out _ _ HSS (fun _ => ?_); clear hK K
  refine tk 6 (.bool false) rfl HSS ?_
  go_simp
  refine tk 7 (.bool false) rfl HSS ?_
  go_simp
  refine tk 8 (.pointer (some ⟨w.heap.size, 4, none⟩)) rfl HSS ?_
  go_simp
  refine tk 9 (.slice Ac nc cc) rfl HSS ?_
  go_simp
  refine tk 10 (.int .i64 (nc : Int)) rfl HSS ?_
  go_simp
  refine tk 11 (.bool false) rfl HSS ?_
  go_simp
  refine tk 12 (.bool false) rfl HSS ?_
  go_simp
  refine tk 13 (.bool false) rfl HSS ?_
  go_simp
  refine tk 14 (.string f) rfl HSS ?_
  go_simp
  refine wpAnyH_ready (rs := [15]) (by kernel_rfl) (by simp) ?_
  refine AllReadyH.cons rfl (fun K hK => ?_) AllReadyH.nil
  go_simp
  refine (HM.out _).mono ?_
  rintro e w' ⟨rfl, rfl⟩
  go_simp
  refine hK.out _ _ HSS (fun _ => ?_); clear hK K
  refine tk 16 (.bool true) rfl HSS ?_
  go_simp
  refine tk 17 (.bool true) rfl HSS ?_
  go_simp
  refine tk 18 (.pointer (some ⟨w.heap.size, 3, none⟩)) rfl HSS ?_
  go_simp
  refine tk 19 (.int .i64 n) rfl HSS ?_
  go_simp
  refine tk 20 (.bool false) rfl HSS ?_
  go_simp
  refine tk 21 (.bool false) rfl HSS ?_
  go_simp
  refine tk 22 (.bool false) rfl HSS ?_
  go_simp
  refine tk 23 (.bool false) rfl HSS ?_
  go_simp
  refine tk 24 (.pointer (some ⟨w.heap.size, 3, none⟩)) rfl HSS ?_
  go_simp
  refine tk 25 (.int .i64 n) rfl HSS ?_
  go_simp
  refine tk 26 (.bool false) rfl HSS ?_
  go_simp
  refine tk 27 (.bool false) rfl HSS ?_
  go_simp
  refine tk 28 (.bool false) rfl HSS ?_
  go_simp
  refine tk 29 (.pointer (some ⟨w.heap.size, 3, none⟩)) rfl HSS ?_
  go_simp
  refine tk 30 (.int .i64 n) rfl HSS ?_
  go_simp
  refine tk 31 (.bool false) rfl HSS ?_
  go_simp
  refine tk 32 (.bool false) rfl HSS ?_
  go_simp
  refine tk 33 (.bool false) rfl HSS ?_
  go_simp
  refine tk 34 (.string f) rfl HSS ?_
  go_simp
  refine wpAnyH_ready (rs := [35]) (by kernel_rfl) (by simp) ?_
  refine AllReadyH.cons rfl (fun K hK => ?_) AllReadyH.nil
  go_simp
  refine (HBb.out _).mono ?_
  rintro e w' ⟨rfl, rfl⟩
  go_simp
  refine hK.out _ _ HSS (fun _ => ?_); clear hK K
  refine tk 36 (.bool false) rfl HSS ?_
  go_simp
  refine tk 37 (.bool false) rfl HSS ?_
  go_simp
  refine tu 38 rfl HSS ?_
  go_simp
  refine tu 39 rfl HSS ?_
  go_simp
  refine tu 40 rfl HSS ?_
  go_simp
  refine tu 41 rfl HSS ?_
  go_simp
  refine tk 42 (.bool false) rfl HSS ?_
  go_simp
  refine tk 43 (.bool false) rfl HSS ?_
  go_simp
  refine tk 44 (.bool false) rfl HSS ?_
  go_simp
  refine tk 45 (.string f) rfl HSS ?_
  go_simp
  refine wpAnyH_ready (rs := [46]) (by kernel_rfl) (by simp) ?_
  refine AllReadyH.cons rfl (fun K hK => ?_) AllReadyH.nil
  go_simp
  refine (HEe.out _).mono ?_
  rintro e w' ⟨rfl, rfl⟩
  go_simp
  refine hK.out _ _ HSS (fun _ => ?_); clear hK K
  refine tk 47 (.bool false) rfl HSS ?_
  go_simp
  refine tk 48 (.bool false) rfl HSS ?_
  go_simp
  refine tu 49 rfl HSS ?_
  go_simp
  refine tu 50 rfl HSS ?_
  go_simp
  refine tu 51 rfl HSS ?_
  go_simp
  refine tu 52 rfl HSS ?_
  go_simp
  refine tk 53 (.bool false) rfl HSS ?_
  go_simp
  refine tk 54 (.bool false) rfl HSS ?_
  go_simp
  refine wpAnyH_done (by kernel_rfl) ?_ _
  exact HI.out _ _ _ _ _ _ _ _ _ _ _ _ _ _ _ _ _ _ _ _ _ _ _ _ _ _ _ _ _ _ _ _ _ _ _ _ _ _ _ _ _ _ _ _ _ _ _ _ _ _ _ _ _ _ _ _ ⟨by rw [HR.out], (Below.refl w5.heap.size w5).drew⟩

set_option maxRecDepth 1000000 in
set_option maxHeartbeats 8000000 in
theorem leafB18 (op n : Int) (name src f : ByteArray) (Ac Ae Ab Al : Option Addr) (nc cc ne ce nb cb nl cl : Nat) (w w5 : World)
    (oknf : okS f) (hx5 : IsBlk w5 w.heap.size 52 #[.int .i64 op, .string name, .string src, .int .i64 n, .slice Ac nc cc, .slice Ae ne ce, .slice Ab nb cb, .slice Al nl cl]) (j3 : inB f 99 = hC op) (j4 : inB f 78 = hM op) (j5 : inB f 98 = hB op) (j6 : inB f 101 = hE op) (hc : hC op = false) (hm : hM op = false) (hb : hB op = true) (he : hE op = true) (hc0 : 0 < nc) :
    SigB op n f nc nb nl w w5 := by
  unfold SigB
  intros
  rename_i hI
  conv => arg 2; whnf
  have HI := Lib.hid hI
  clear hI
  have HR : Hid (tB op n nc nb nl = true) := Lib.hid (by unfold tB; rw [hc, hm, hb, he]; simp; omega)
  rw [hc] at j3
  have HC := Lib.hid (fun W => in_at f 99 99 _ oknf rfl j3 W)
  rw [hm] at j4
  have HM := Lib.hid (fun W => in_at f 78 78 _ oknf rfl j4 W)
  rw [hb] at j5
  have HBb := Lib.hid (fun W => in_at f 98 98 _ oknf rfl j5 W)
  rw [he] at j6
  have HEe := Lib.hid (fun W => in_at f 101 101 _ oknf rfl j6 W)
  clear j3 j4 j5 j6 hc hm hb he oknf
  obtain ⟨z0, z1, z2, z3, z4, z5, z6, z7, zl⟩ := stBox' hx5
  clear hx5
  have d0 : decide ((0 : Int) < (nc : Int)) = true := by simp; omega
  have HSS : (fun W => W.cell? ⟨w.heap.size, 3, none⟩ = some (.int .i64 n) ∧ W.cell? ⟨w.heap.size, 4, none⟩ = some (.slice Ac nc cc) ∧ W.cell? ⟨w.heap.size, 6, none⟩ = some (.slice Ab nb cb) ∧ W.cell? ⟨w.heap.size, 7, none⟩ = some (.slice Al nl cl)) w5.drew := ⟨z3, z4, z6, z7⟩
  refine wp_region_held (S := (fun W => W.cell? ⟨w.heap.size, 3, none⟩ = some (.int .i64 n) ∧ W.cell? ⟨w.heap.size, 4, none⟩ = some (.slice Ac nc cc) ∧ W.cell? ⟨w.heap.size, 6, none⟩ = some (.slice Ab nb cb) ∧ W.cell? ⟨w.heap.size, 7, none⟩ = some (.slice Al nl cl))) (by kernel_rfl) ?_
  change wpAnyH _ _ _ _ _ _ _ _ (World.drew _)
  refine tk 0 (.string f) rfl HSS ?_
  go_simp
  refine tk 2 (.pointer (some ⟨w.heap.size, 4, none⟩)) rfl HSS ?_
  go_simp
  refine tk 3 (.slice Ac nc cc) rfl HSS ?_
  go_simp
  refine tk 4 (.int .i64 (nc : Int)) rfl HSS ?_
  go_simp
  refine tk 5 (.bool true) rfl HSS ?_
  go_simp
  refine wpAnyH_ready (rs := [1]) (by kernel_rfl) (by simp) ?_
  refine AllReadyH.cons rfl (fun K hK => ?_) AllReadyH.nil
  go_simp
  refine (HC.out _).mono ?_
  rintro e w' ⟨rfl, rfl⟩
  go_simp
  refine hK.out _ _ HSS (fun _ => ?_); clear hK K
  refine tk 6 (.bool true) rfl HSS ?_
  go_simp
  refine tk 7 (.bool true) rfl HSS ?_
  go_simp
  refine tu 8 rfl HSS ?_
  go_simp
  refine tu 9 rfl HSS ?_
  go_simp
  refine tu 10 rfl HSS ?_
  go_simp
  refine tu 11 rfl HSS ?_
  go_simp
  refine tk 12 (.bool true) rfl HSS ?_
  go_simp
  refine tk 13 (.bool true) rfl HSS ?_
  go_simp
  refine tu 14 rfl HSS ?_
  go_simp
  refine tu 15 rfl HSS ?_
  go_simp
  refine tu 16 rfl HSS ?_
  go_simp
  refine tu 17 rfl HSS ?_
  go_simp
  refine tu 18 rfl HSS ?_
  go_simp
  refine tu 19 rfl HSS ?_
  go_simp
  refine tu 20 rfl HSS ?_
  go_simp
  refine tu 21 rfl HSS ?_
  go_simp
  refine tk 22 (.bool true) rfl HSS ?_
  go_simp
  refine tk 23 (.bool true) rfl HSS ?_
  go_simp
  refine tu 24 rfl HSS ?_
  go_simp
  refine tu 25 rfl HSS ?_
  go_simp
  refine tu 26 rfl HSS ?_
  go_simp
  refine tk 27 (.bool true) rfl HSS ?_
  go_simp
  refine tk 28 (.bool true) rfl HSS ?_
  go_simp
  refine tu 29 rfl HSS ?_
  go_simp
  refine tu 30 rfl HSS ?_
  go_simp
  refine tu 31 rfl HSS ?_
  go_simp
  refine tk 32 (.bool true) rfl HSS ?_
  go_simp
  refine tk 33 (.bool true) rfl HSS ?_
  go_simp
  refine tu 34 rfl HSS ?_
  go_simp
  refine tu 35 rfl HSS ?_
  go_simp
  refine tu 36 rfl HSS ?_
  go_simp
  refine tu 37 rfl HSS ?_
  go_simp
  refine tu 38 rfl HSS ?_
  go_simp
  refine tu 39 rfl HSS ?_
  go_simp
  refine tu 40 rfl HSS ?_
  go_simp
  refine tu 41 rfl HSS ?_
  go_simp
  refine tu 42 rfl HSS ?_
  go_simp
  refine tk 43 (.bool true) rfl HSS ?_
  go_simp
  refine tk 44 (.bool true) rfl HSS ?_
  go_simp
  refine tu 45 rfl HSS ?_
  go_simp
  refine tu 46 rfl HSS ?_
  go_simp
  refine tu 47 rfl HSS ?_
  go_simp
  refine tu 48 rfl HSS ?_
  go_simp
  refine tu 49 rfl HSS ?_
  go_simp
  refine tu 50 rfl HSS ?_
  go_simp
  refine tu 51 rfl HSS ?_
  go_simp
  refine tu 52 rfl HSS ?_
  go_simp
  refine tu 53 rfl HSS ?_
  go_simp
  refine tk 54 (.bool true) rfl HSS ?_
  go_simp
  refine wpAnyH_done (by kernel_rfl) ?_ _
  exact HI.out _ _ _ _ _ _ _ _ _ _ _ _ _ _ _ _ _ _ _ _ _ _ _ _ _ _ _ _ _ _ _ _ _ _ _ _ _ _ _ _ _ _ _ _ _ _ _ _ _ _ _ _ _ _ _ _ ⟨by rw [HR.out], (Below.refl w5.heap.size w5).drew⟩
end Go.Proofs.Ytgihhkfppnhdpaa

namespace Go.Proofs.Ytgihhkfppnhdpaa
open Go.RowKit Go.Afx

set_option maxRecDepth 1000000 in
theorem phaseB (op n : Int) (name src f : ByteArray) (Ac Ae Ab Al : Option Addr) (nc cc ne ce nb cb nl cl : Nat) (w w5 : World)
    (oknf : okS f) (hx5 : IsBlk w5 w.heap.size 52 #[.int .i64 op, .string name, .string src, .int .i64 n, .slice Ac nc cc, .slice Ae ne ce, .slice Ab nb cb, .slice Al nl cl]) (j3 : inB f 99 = hC op) (j4 : inB f 78 = hM op) (j5 : inB f 98 = hB op) (j6 : inB f 101 = hE op) (hlo : 1 ≤ op) (hhi : op ≤ 10) :
    SigB op n f nc nb nl w w5 := by
  have hcl : (hC op = false ∧ hM op = false ∧ hB op = false ∧ hE op = false) ∨ (hC op = true ∧ hM op = false ∧ hB op = false ∧ hE op = false) ∨ (hC op = false ∧ hM op = true ∧ hB op = true ∧ hE op = false) ∨ (hC op = false ∧ hM op = false ∧ hB op = true ∧ hE op = true) := by
    rcases fOf_cases op hlo hhi with rfl | rfl | rfl | rfl | rfl | rfl | rfl | rfl | rfl | rfl <;> decide
  rcases hcl with ⟨hc, hm, hb, he⟩ | ⟨hc, hm, hb, he⟩ | ⟨hc, hm, hb, he⟩ | ⟨hc, hm, hb, he⟩
  · skip
    rcases Classical.em (0 < nc) with hc0 | hc0
    · skip
      exact @leafB4 op n name src f Ac Ae Ab Al nc cc ne ce nb cb nl cl w w5 oknf hx5 j3 j4 j5 j6 hc hm hb he hc0
    · skip
      rcases Classical.em (n ≠ 0) with hnz | hnz
      · skip
        exact @leafB0 op n name src f Ac Ae Ab Al nc cc ne ce nb cb nl cl w w5 oknf hx5 j3 j4 j5 j6 hc hm hb he hc0 hnz
      · skip
        rcases Classical.em (0 < nb) with hb0 | hb0
        · skip
          exact @leafB1 op n name src f Ac Ae Ab Al nc cc ne ce nb cb nl cl w w5 oknf hx5 j3 j4 j5 j6 hc hm hb he hc0 hnz hb0
        · skip
          rcases Classical.em (0 < nl) with he0 | he0
          · skip
            exact @leafB2 op n name src f Ac Ae Ab Al nc cc ne ce nb cb nl cl w w5 oknf hx5 j3 j4 j5 j6 hc hm hb he hc0 hnz hb0 he0
          · skip
            exact @leafB3 op n name src f Ac Ae Ab Al nc cc ne ce nb cb nl cl w w5 oknf hx5 j3 j4 j5 j6 hc hm hb he hc0 hnz hb0 he0
  · skip
    rcases Classical.em (0 < nc) with hc0 | hc0
    · skip
      rcases Classical.em (8 < nc) with hc8 | hc8
      · skip
        exact @leafB6 op n name src f Ac Ae Ab Al nc cc ne ce nb cb nl cl w w5 oknf hx5 j3 j4 j5 j6 hc hm hb he hc0 hc8
      · skip
        rcases Classical.em (n ≠ 0) with hnz | hnz
        · skip
          exact @leafB7 op n name src f Ac Ae Ab Al nc cc ne ce nb cb nl cl w w5 oknf hx5 j3 j4 j5 j6 hc hm hb he hc0 hc8 hnz
        · skip
          rcases Classical.em (0 < nb) with hb0 | hb0
          · skip
            exact @leafB8 op n name src f Ac Ae Ab Al nc cc ne ce nb cb nl cl w w5 oknf hx5 j3 j4 j5 j6 hc hm hb he hc0 hc8 hnz hb0
          · skip
            rcases Classical.em (0 < nl) with he0 | he0
            · skip
              exact @leafB9 op n name src f Ac Ae Ab Al nc cc ne ce nb cb nl cl w w5 oknf hx5 j3 j4 j5 j6 hc hm hb he hc0 hc8 hnz hb0 he0
            · skip
              exact @leafB10 op n name src f Ac Ae Ab Al nc cc ne ce nb cb nl cl w w5 oknf hx5 j3 j4 j5 j6 hc hm hb he hc0 hc8 hnz hb0 he0
    · skip
      exact @leafB5 op n name src f Ac Ae Ab Al nc cc ne ce nb cb nl cl w w5 oknf hx5 j3 j4 j5 j6 hc hm hb he hc0
  · skip
    rcases Classical.em (0 < nc) with hc0 | hc0
    · skip
      exact @leafB15 op n name src f Ac Ae Ab Al nc cc ne ce nb cb nl cl w w5 oknf hx5 j3 j4 j5 j6 hc hm hb he hc0
    · skip
      rcases Classical.em (n < 0) with hng | hng
      · skip
        exact @leafB11 op n name src f Ac Ae Ab Al nc cc ne ce nb cb nl cl w w5 oknf hx5 j3 j4 j5 j6 hc hm hb he hc0 hng
      · skip
        rcases Classical.em (1000 < n) with hnm | hnm
        · skip
          exact @leafB12 op n name src f Ac Ae Ab Al nc cc ne ce nb cb nl cl w w5 oknf hx5 j3 j4 j5 j6 hc hm hb he hc0 hng hnm
        · skip
          rcases Classical.em (0 < nl) with he0 | he0
          · skip
            exact @leafB13 op n name src f Ac Ae Ab Al nc cc ne ce nb cb nl cl w w5 oknf hx5 j3 j4 j5 j6 hc hm hb he hc0 hng hnm he0
          · skip
            exact @leafB14 op n name src f Ac Ae Ab Al nc cc ne ce nb cb nl cl w w5 oknf hx5 j3 j4 j5 j6 hc hm hb he hc0 hng hnm he0
  · skip
    rcases Classical.em (0 < nc) with hc0 | hc0
    · skip
      exact @leafB18 op n name src f Ac Ae Ab Al nc cc ne ce nb cb nl cl w w5 oknf hx5 j3 j4 j5 j6 hc hm hb he hc0
    · skip
      rcases Classical.em (n ≠ 0) with hnz | hnz
      · skip
        exact @leafB16 op n name src f Ac Ae Ab Al nc cc ne ce nb cb nl cl w w5 oknf hx5 j3 j4 j5 j6 hc hm hb he hc0 hnz
      · skip
        exact @leafB17 op n name src f Ac Ae Ab Al nc cc ne ce nb cb nl cl w w5 oknf hx5 j3 j4 j5 j6 hc hm hb he hc0 hnz
end Go.Proofs.Ytgihhkfppnhdpaa

namespace Go.Proofs.Ytgihhkfppnhdpaa
open Go.RowKit Go.Afx


set_option maxRecDepth 100000 in
set_option maxHeartbeats 40000000 in
theorem rbuiltS_succ (F : Nat → Prop) (d : Nat) (ih : RBuiltS F d) (op n : Int) (name src : ByteArray) (cols : List ByteArray) (exprs : List Ex) (body els : List St) (Ac Ae Ab Al : Option Addr) (nc cc ne ce nb cb nl cl : Nat) (w : World)
    (oknm : okS name) (oksr : okS src) (hcl : LsAt F w 1 SRow Ac nc cc cols) (hel : ExsAt F d w Ae ne ce exprs) (hbl : StsAt F d w Ab nb cb body) (hll : StsAt F d w Al nl cl els) :
    Calls Try.prog 44 #[.agg #[.int .i64 op, .string name, .string src, .int .i64 n, .slice Ac nc cc, .slice Ae ne ce, .slice Ab nb cb, .slice Al nl cl]] w fun e w' => e = .returned (.bool (refS op name src n cols exprs.length body.length els.length && exprs.all (builtE d) && body.all (builtS d) && els.all (builtS d))) ∧ Below w.heap.size w w' := by
  have hnc := LsAt.n_le hcl
  have hne := LsAt.n_le hel
  have hnb := LsAt.n_le hbl
  have hnl := LsAt.n_le hll
  have Hcl := Lib.hid (LsAt.len hcl)
  have Hel := Lib.hid (LsAt.len hel)
  have Hbl := Lib.hid (LsAt.len hbl)
  have Hll := Lib.hid (LsAt.len hll)
  have hb1 : Below w.heap.size w (w.alloc (.cells #[.int .i64 op, .string name, .string src, .int .i64 n, .slice Ac nc cc, .slice Ae ne ce, .slice Ab nb cb, .slice Al nl cl] 52)) := (Below.refl _ _).alloc (Nat.le_refl _) _
  by_cases hlo : 1 ≤ op
  rotate_left
  · have Hf : Hid (refS op name src n cols exprs.length body.length els.length = false) := Lib.hid (by unfold refS; simp [hlo])
    have hlo' : op < 1 := by omega
    clear hcl hel hbl hll
    go_enter Try.func44, Try.ntmps44
    go_wp2
    go_ret
    exact ⟨ret_bool (by rw [Hf.out]; rfl), hb1⟩
  by_cases hhi : op ≤ 10
  rotate_left
  · have Hf : Hid (refS op name src n cols exprs.length body.length els.length = false) := Lib.hid (by unfold refS; simp [hhi])
    have hhi' : 10 < op := by omega
    clear hcl hel hbl hll
    go_enter Try.func44, Try.ntmps44
    go_wp2
    go_ret
    exact ⟨ret_bool (by rw [Hf.out]; rfl), hb1⟩
  obtain ⟨j1, j2, j3, j4, j5, j6⟩ := inB_n op hlo hhi
  have oknf := okS_fOf op
  have Hop := Lib.hid (And.intro hlo hhi)
  go_enter Try.func44, Try.ntmps44
  go_upto_region 4 with (fail)
  obtain ⟨w2, Hw2⟩ : ∃ w2, Hid (w2 = (w.alloc (.cells #[.int .i64 op, .string name, .string src, .int .i64 n, .slice Ac nc cc, .slice Ae ne ce, .slice Ab nb cb, .slice Al nl cl] 52)).alloc (.cells #[.string { data := #[] }, .string { data := #[110] }, .string { data := #[110] }, .string { data := #[115] }, .string { data := #[110, 115, 99] }, .string { data := #[110, 115] }, .string { data := #[110, 115, 78, 98] }, .string { data := #[98, 101] }, .string { data := #[115] }, .string { data := #[] }, .string { data := #[] }] 9)) := ⟨_, rfl⟩
  have hb2 : Below w.heap.size w w2 := by rw [Hw2.out]; exact hb1.alloc (by simp) _
  have hx2 : IsBlk w2 w.heap.size 52 #[.int .i64 op, .string name, .string src, .int .i64 n, .slice Ac nc cc, .slice Ae ne ce, .slice Ab nb cb, .slice Al nl cl] := by rw [Hw2.out]; exact (IsBlk.laid _ _ _).alloc _
  have ha2 : IsBlk w2 (w.heap.size + 1) 9 #[.string { data := #[] }, .string { data := #[110] }, .string { data := #[110] }, .string { data := #[115] }, .string { data := #[110, 115, 99] }, .string { data := #[110, 115] }, .string { data := #[110, 115, 78, 98] }, .string { data := #[98, 101] }, .string { data := #[115] }, .string { data := #[] }, .string { data := #[] }] := by rw [Hw2.out]; exact laid_at (by simp) _ _
  rw [← Hw2.out]
  obtain ⟨x0, x1, x2, x3, x4, x5, x6, x7, xl⟩ := stBox' hx2
  have HX := Lib.hid (fun W (hW : Below w2.heap.size w2 W) => hx2.as_was (hW.block _ hx2.lt))
  have Hcl2 := Lib.hid (fun W (hW : Below w2.heap.size w2 W) => (hcl.below hb2).below hW)
  have Hel2 := Lib.hid (fun W (hW : Below w2.heap.size w2 W) => ExsAt.below (ExsAt.below hel hb2) hW)
  have Hbl2 := Lib.hid (fun W (hW : Below w2.heap.size w2 W) => StsAt.below (StsAt.below hbl hb2) hW)
  have Hll2 := Lib.hid (fun W (hW : Below w2.heap.size w2 W) => StsAt.below (StsAt.below hll hb2) hW)
  have Hb2 := Lib.hid hb2
  clear hcl hel hbl hll hx2 hb1
  go_cut [4] (fun u4 W => u4 = .string (fOf op) ∧ w2 = W)
  case first =>
    have a0 := ha2.cell 0; have a1 := ha2.cell 1; have a2 := ha2.cell 2; have a3 := ha2.cell 3; have a4 := ha2.cell 4; have a5 := ha2.cell 5; have a6 := ha2.cell 6; have a7 := ha2.cell 7; have a8 := ha2.cell 8; have a9 := ha2.cell 9; have a10 := ha2.cell 10
    simp at a0 a1 a2 a3 a4 a5 a6 a7 a8 a9 a10
    clear ha2 HX Hcl2 Hel2 Hbl2 Hll2 j1 j2 j3 j4 j5 j6
    rcases fOf_cases op Hop.out.1 Hop.out.2 with rfl | rfl | rfl | rfl | rfl | rfl | rfl | rfl | rfl | rfl
    all_goals
      go_wp2
      go_meet
      exact ⟨rfl, rfl⟩
  case rest =>
    obtain ⟨rfl, rfl⟩ := hcut
    obtain ⟨f, Hf0⟩ : ∃ f, Hid (fOf op = f) := ⟨_, rfl⟩
    rw [Hf0.out] at j1 j2 j3 j4 j5 j6 oknf
    rw [Hf0.out]
    clear ha2
    have J1 := Lib.hid j1
    have J2 := Lib.hid j2
    have J3 := Lib.hid j3
    have J4 := Lib.hid j4
    have J5 := Lib.hid j5
    have J6 := Lib.hid j6
    clear j1 j2 j3 j4 j5 j6
    go_upto_region 5 with (fail)
    go_cut [57] (fun u57 W => WordsA w2 (tA op name src) u57 W)
    case first =>
      refine Code.wp_mono noPanic_then (phaseA op n name src f Ac Ae Ab Al nc cc ne ce nb cb nl cl w w2 oknm oksr oknf (HX.out _ (Below.refl _ _)) J1.out J2.out ?_)
      intro y24 y25 y26 y27 y28 y29 y30 y31 y32 y33 y34 y35 y36 y37 y38 y39 y40 y41 y42 y43 y44 y45 y46 y47 y48 y49 y50 y51 y52 y53 y54 y55 y56 y57 W hr
      have Hr := Lib.hid hr
      clear hr
      go_step
      go_meet
      exact Hr.out
    case rest =>
      obtain ⟨rfl, hbA⟩ := hcut
      generalize wc = w5 at *
      obtain ⟨ta, Hta⟩ : ∃ b, Hid (tA op name src = b) := ⟨_, rfl⟩
      rw [Hta.out]
      have HA5 := Lib.hid hbA
      have H05 := Lib.hid (Hb2.out.trans (hbA.mono Hb2.out.size))
      have Hx5 := Lib.hid (HX.out w5 hbA)
      clear hbA
      cases ta
      rotate_left
      · have Hf : Hid (refS op name src n cols exprs.length body.length els.length = false) := Lib.hid (by unfold refS; rw [Hta.out]; simp)
        go_wp2
        go_ret
        exact ⟨ret_bool (by rw [Hf.out]; rfl), H05.out⟩
      go_upto_region 7 with (fail)
      go_cut [112] (fun u112 W => WordsA w5 (tB op n nc nb nl) u112 W)
      case first =>
        refine Code.wp_mono noPanic_then (phaseB op n name src f Ac Ae Ab Al nc cc ne ce nb cb nl cl w w5 oknf Hx5.out J3.out J4.out J5.out J6.out Hop.out.1 Hop.out.2 ?_)
        intro y58 y59 y60 y61 y62 y63 y64 y65 y66 y67 y68 y69 y70 y71 y72 y73 y74 y75 y76 y77 y78 y79 y80 y81 y82 y83 y84 y85 y86 y87 y88 y89 y90 y91 y92 y93 y94 y95 y96 y97 y98 y99 y100 y101 y102 y103 y104 y105 y106 y107 y108 y109 y110 y111 y112 W hr
        have Hr := Lib.hid hr
        clear hr
        go_step
        go_meet
        exact Hr.out
      case rest =>
        obtain ⟨rfl, hbB⟩ := hcut
        generalize wc = w6 at *
        obtain ⟨tb, Htb⟩ : ∃ b, Hid (tB op n nc nb nl = b) := ⟨_, rfl⟩
        rw [Htb.out]
        have H26 := Lib.hid (HA5.out.trans (hbB.mono HA5.out.size))
        have H06 := Lib.hid (Hb2.out.trans (H26.out.mono Hb2.out.size))
        clear hbB
        cases tb
        rotate_left
        · have Hf : Hid (refS op name src n cols exprs.length body.length els.length = false) := Lib.hid (by unfold refS; rw [Hcl.out, Hbl.out, Hll.out, Htb.out]; simp)
          go_wp2
          go_ret
          exact ⟨ret_bool (by rw [Hf.out]; rfl), H06.out⟩
        repeat (first | exact built_rest F d ih op n name src cols exprs body els Ac Ae Ab Al nc cc ne ce nb cb nl cl w w2 w6 Hb2.out (HX.out _ (Below.refl _ _)) H26.out (Hcl2.out _ (Below.refl _ _)) (Hel2.out _ (Below.refl _ _)) (Hbl2.out _ (Below.refl _ _)) (Hll2.out _ (Below.refl _ _)) Hta.out Htb.out Hop.out.1 Hop.out.2 | go_step)

theorem rbuiltS_any (F : Nat → Prop) (d : Nat) : RBuiltS F d := by
  induction d with
  | zero => intro x row w h; exact h.elim
  | succ d ih =>
    intro x row w h
    obtain ⟨_, _, hnm, hsr, Ac, nc, cc, Ae, ne, ce, Ab, nb, cb, Al, nl, cl, rfl, hcl, hel, hbl, hll⟩ := h.open_
    have hfin : builtS (d + 1) x = (refS x.op x.name x.src x.n x.cols x.exprs.length x.body.length x.els.length && x.exprs.all (builtE d) && x.body.all (builtS d) && x.els.all (builtS d)) := by
      rw [refS_shape]; rfl
    rw [hfin]
    exact rbuiltS_succ F d ih x.op x.n x.name x.src x.cols x.exprs x.body x.els Ac Ae Ab Al nc cc ne ce nb cb nl cl w hnm hsr hcl hel hbl hll
end Go.Proofs.Ytgihhkfppnhdpaa

namespace Go.Afx
open Go.RowKit Go.ChangeShapes Go.WideShapes Go.Deep

section
variable {H : Type} {enc : TypeId × Value → H} {P : Program} {w : World} {base : Nat} {spare : Nat → Bool} {held : Bool}

/-- a slice that reads as data reads as rows of cells, each row as data -/
theorem rows_of_trod {t e : TypeId} {sz fuel n c : Nat} {A : Option Addr} {x : DataW H × List MemPlace} (ht : P.underlying t = some (.slice e)) (hsz : P.cellsOf e = sz) (hpos : 0 < sz)
    (h : DataW.trod enc P w base spare held fuel t [.slice A n c] = some x) :
    ∃ rows, RowsAt w sz A n c rows ∧ ∀ (k : Nat) (r : List Value), rows[k]? = some r → r.length = sz ∧ ∃ m y, DataW.trod enc P w base spare held m e r = some y := by
  rcases open_slice ht h with ⟨hcs, _⟩ | ⟨a, len, cap, m, q, D, Pl, hcs, _, hl, hm, hmm, _, hi⟩
  · simp only [List.cons.injEq, Value.slice.injEq, and_true] at hcs
    obtain ⟨rfl, rfl, rfl⟩ := hcs
    exact ⟨[], RowsAt.nil_ w sz, fun k r hr => by simp at hr⟩
  · simp only [List.cons.injEq, Value.slice.injEq, and_true] at hcs
    obtain ⟨rfl, rfl, rfl⟩ := hcs
    subst hsz
    have hle : n ≤ m := by rw [hmm]; split <;> omega
    have hall : ∀ i, ∃ r : List Value, i < n → w.cells? base (a.add (i * P.cellsOf e)) (P.cellsOf e) = some r ∧ DataW.trod enc P w base spare held q e r = some (D i, Pl i) := fun i => by
      by_cases hin : i < n
      · obtain ⟨r, h1, h2⟩ := hi i (by omega)
        exact ⟨r, fun _ => ⟨h1, h2⟩⟩
      · exact ⟨[], fun h => absurd h hin⟩
    obtain ⟨f, hf⟩ : ∃ f : Nat → List Value, ∀ i, i < n → w.cells? base (a.add (i * P.cellsOf e)) (P.cellsOf e) = some (f i) ∧ DataW.trod enc P w base spare held q e (f i) = some (D i, Pl i) := ⟨fun i => (hall i).choose, fun i => (hall i).choose_spec⟩
    clear hall
    refine ⟨(List.range n).map f, ⟨by simp, hl, hm, fun k row hk => ?_⟩, fun k r hk => ?_⟩
    · rw [List.getElem?_map] at hk
      obtain ⟨i, hik, rfl⟩ := Option.map_eq_some_iff.1 hk
      have hkn : k < n := by have := (List.getElem?_eq_some_iff.1 hik).1; simpa using this
      rw [List.getElem?_range hkn] at hik
      injection hik with hik
      subst hik
      obtain ⟨_, hcl, hat⟩ := World.cells?_some (hf k hkn).1
      obtain ⟨_, hcl0, hat0⟩ := World.cells?_some (hf 0 (by omega)).1
      have h00 := hat0 0 hpos
      rw [List.getElem?_eq_getElem (by omega), Nat.zero_mul] at h00
      have ha0 : (a.add 0).add 0 = a := by simp [Addr.add]
      rw [ha0] at h00
      obtain ⟨b, o, s⟩ := a
      have hs : s = none := by simpa using World.cell?_spot h00
      subst hs
      refine ⟨b, o, rfl, World.block_lt_of_cell? w _ h00, fun j u hu => ?_⟩
      have hj : j < P.cellsOf e := by have := (List.getElem?_eq_some_iff.1 hu).1; omega
      have hc := hat j hj
      rw [hu] at hc
      have e2 : ((⟨b, o, none⟩ : Addr).add (k * P.cellsOf e)).add j = ⟨b, o + k * P.cellsOf e + j, none⟩ := by
        unfold Addr.add
        by_cases h1 : k * P.cellsOf e = 0 <;> by_cases h2 : j = 0 <;> simp [h1, h2]
      rw [e2] at hc
      exact hc
    · rw [List.getElem?_map] at hk
      obtain ⟨i, hik, rfl⟩ := Option.map_eq_some_iff.1 hk
      have hkn : k < n := by have := (List.getElem?_eq_some_iff.1 hik).1; simpa using this
      rw [List.getElem?_range hkn] at hik
      injection hik with hik
      subst hik
      exact ⟨(World.cells?_some (hf k hkn).1).2.1, q, _, (hf k hkn).2⟩

/-- rows that are each of a shape, told by the shape -/
theorem rows_map {α : Type} (f : α → List Value) {rows : List (List Value)} (h : ∀ (k : Nat) (r : List Value), rows[k]? = some r → ∃ a, r = f a) : ∃ xs : List α, rows = xs.map f := by
  induction rows with
  | nil => exact ⟨[], rfl⟩
  | cons r rows ih =>
    obtain ⟨a, rfl⟩ := h 0 r rfl
    obtain ⟨xs, rfl⟩ := ih fun k r hr => h (k + 1) r (by simpa using hr)
    exact ⟨a :: xs, rfl⟩
end
end Go.Afx

namespace Go.Afx
open Go.RowKit Go.ChangeShapes Go.WideShapes Go.Deep

section
variable {H : Type} {enc : TypeId × Value → H} {P : Program} {w : World} {base : Nat} {spare : Nat → Bool} {held : Bool}

theorem choose_rows {α : Type} (Q : List Value → α → Prop) : ∀ {rows : List (List Value)}, (∀ r ∈ rows, ∃ x, Q r x) → ∃ xs : List α, rows.length = xs.length ∧ ∀ (k : Nat) (r : List Value) (x : α), rows[k]? = some r → xs[k]? = some x → Q r x := by
  intro rows
  induction rows with
  | nil => exact fun _ => ⟨[], rfl, fun k r x h => by simp at h⟩
  | cons r rows ih =>
    intro h
    obtain ⟨x, hx⟩ := h r (by simp)
    obtain ⟨xs, hl, hh⟩ := ih fun r hr => h r (by simp [hr])
    refine ⟨x :: xs, by simp [hl], fun k r' x' h1 h2 => ?_⟩
    cases k with
    | zero => simp at h1 h2; subst h1 h2; exact hx
    | succ k => exact hh k r' x' (by simpa using h1) (by simpa using h2)

/-- all blocks that are there -/
def Old (w : World) : Nat → Prop := fun b => b < w.heap.size

/-- a slice that reads as data reads as a list of what its elements read as -/
theorem ls_of_trod {α : Type} {t e : TypeId} {sz fuel n c : Nat} {A : Option Addr} {x : DataW H × List MemPlace} (ht : P.underlying t = some (.slice e)) (hsz : P.cellsOf e = sz) (hpos : 0 < sz) (Q : List Value → α → Prop)
    (hQ : ∀ (r : List Value) (m : Nat) (y : DataW H × List MemPlace), r.length = sz → DataW.trod enc P w base spare held m e r = some y → ∃ x, Q r x)
    (h : DataW.trod enc P w base spare held fuel t [.slice A n c] = some x) : ∃ xs : List α, LsAt (Old w) w sz Q A n c xs := by
  obtain ⟨rows, hr, hrow⟩ := rows_of_trod ht hsz hpos h
  obtain ⟨xs, hl, hh⟩ := choose_rows Q (rows := rows) fun r hr => by
    obtain ⟨k, hk⟩ := List.mem_iff_getElem?.1 hr
    obtain ⟨h1, m, y, h2⟩ := hrow k r hk
    exact hQ r m y h1 h2
  refine ⟨xs, rows, hr, fun a ha h0 => ?_, hl, fun k r x h1 h2 => ⟨(hrow k r h1).1, hh k r x h1 h2⟩⟩
  obtain ⟨b, o, hA, hb, _⟩ := hr.at_ 0 _ (List.getElem?_eq_getElem (by rw [hr.len]; exact h0))
  rw [ha] at hA
  injection hA with hA
  subst hA
  exact hb

theorem okI_of {k : Int} (h : (Lit.int .i64 k).wf = true) : okI k := by
  simp [Lit.wf, IntKind.min, IntKind.max, IntKind.signed, IntKind.bits] at h
  exact h

theorem ints_of_trod {t e : TypeId} {fuel n c : Nat} {A : Option Addr} {x : DataW H × List MemPlace} (ht : P.underlying t = some (.slice e)) (he : P.underlying e = some (.int .i64)) (hsz : P.cellsOf e = 1)
    (h : DataW.trod enc P w base spare held fuel t [.slice A n c] = some x) : ∃ xs : List Int, LsAt (Old w) w 1 IRow A n c xs :=
  ls_of_trod ht hsz (by omega) IRow (fun r m y hr hy => by
    obtain ⟨k, rfl, _, hk⟩ := DataW.trod_int he hy
    exact ⟨k, rfl, okI_of hk⟩) h
theorem strs_of_trod {t e : TypeId} {fuel n c : Nat} {A : Option Addr} {x : DataW H × List MemPlace} (ht : P.underlying t = some (.slice e)) (he : P.underlying e = some .string) (hsz : P.cellsOf e = 1)
    (h : DataW.trod enc P w base spare held fuel t [.slice A n c] = some x) : ∃ xs : List ByteArray, LsAt (Old w) w 1 SRow A n c xs :=
  ls_of_trod ht hsz (by omega) SRow (fun r m y hr hy => by
    obtain ⟨s, rfl, _, hk⟩ := DataW.trod_string he hy
    exact ⟨s, rfl, hk⟩) h
end
end Go.Afx
