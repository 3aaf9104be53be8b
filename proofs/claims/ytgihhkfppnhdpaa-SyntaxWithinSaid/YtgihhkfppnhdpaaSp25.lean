/- Parts of this proof, one behind the other: RefHG, RefH0, RefHD. -/
import Derived.Test.YtgihhkfppnhdpaaSp24
import Derived.Deep.DeepCutAuto
import Derived.Deep.QuietTactic
import Derived.Deep.RegionHeld3
import Derived.BigQuiet
import Derived.Outline
import Derived.Test.YtgihhkfppnhdpaaSp16
import Derived.Deep.CutBlock
namespace Go.Proofs.Ytgihhkfppnhdpaa
open Go.RowKit Go.Afx

set_option maxRecDepth 1000000 in
set_option maxHeartbeats 8000000 in
theorem leafA7 (op n : Int) (name src f : ByteArray) (Ac Ae Ab Al : Option Addr) (nc cc ne ce nb cb nl cl : Nat) (w w2 : World)
    (oknm : okS name) (oksr : okS src) (oknf : okS f) (hx2 : IsBlk w2 w.heap.size 52 #[.int .i64 op, .string name, .string src, .int .i64 n, .slice Ac nc cc, .slice Ae ne ce, .slice Ab nb cb, .slice Al nl cl]) (j1 : inB f 110 = hN op) (j2 : inB f 115 = hS op) (hbn : hN op = true) (hbs : hS op = false) (hen : noS name = false) (hes : noS src = true) (hfn : freeB name = false) :
    SigA op name src f w w2 := by
  unfold SigA
  intros
  rename_i hI
  conv => arg 2; whnf
  obtain ⟨fs, hfs⟩ : ∃ b, freeB src = b := ⟨_, rfl⟩
  have HI := Lib.hid hI
  clear hI
  rw [hbn] at j1
  rw [hbs] at j2
  have HN := Lib.hid (fun W => in_at f 110 110 _ oknf rfl j1 W)
  have HS := Lib.hid (fun W => in_at f 115 115 _ oknf rfl j2 W)
  have hF1 := fun W => freeRef_any name W oknm
  have hF2 := fun W => freeRef_any src W oksr
  rw [hfn] at hF1
  rw [hfs] at hF2
  have HFn := Lib.hid hF1
  have HFs := Lib.hid hF2
  have HX := Lib.hid (fun W (hW : Below w2.heap.size w2 W) => hx2.as_was (hW.block _ hx2.lt))
  have HS2 := Lib.hid (fun W (hW : Below w2.heap.size w2 W) => And.intro (stBox' (HX.out W hW)).2.1 (stBox' (HX.out W hW)).2.2.1)
  clear j1 j2 oknf hF1 hF2 hx2
  have fname := str_some hen
  obtain ⟨gname, kname⟩ := str_no hen
  have fsrc := str_empty hes
  obtain ⟨gsrc, ksrc⟩ := str_yes hes
  have HR := Lib.hid (tA_of (name := name) (src := src) (op := op) hbn hbs hen hes hfn hfs)
  clear hbn hbs hen hes hfn hfs
  refine wp_region_held (S := fun W => W.cell? ⟨w.heap.size, 1, none⟩ = some (.string name) ∧ W.cell? ⟨w.heap.size, 2, none⟩ = some (.string src)) (by kernel_rfl) ?_
  change wpAnyH _ _ _ _ _ _ _ _ (World.drew _)
  have HSS := HS2.out _ (Below.refl w2.heap.size w2).drew
  refine tk 0 (.string f) rfl HSS ?_
  go_simp
  refine tk 2 (.pointer (some ⟨w.heap.size, 1, none⟩)) rfl HSS ?_
  go_simp
  refine tk 3 (.string name) rfl HSS ?_
  go_simp
  refine tk 4 (.bool true) rfl HSS ?_
  go_simp
  refine wpAnyH_ready (rs := [1]) (by kernel_rfl) (by simp) ?_
  refine AllReadyH.cons rfl (fun K hK => ?_) AllReadyH.nil
  go_simp
  refine (HN.out _).mono ?_
  rintro e w' ⟨rfl, rfl⟩
  go_simp
  refine hK.out _ _ HSS (fun _ => ?_); clear hK K
  refine tk 5 (.bool false) rfl HSS ?_
  go_simp
  refine tk 6 (.bool false) rfl HSS ?_
  go_simp
  refine tk 7 (.string f) rfl HSS ?_
  go_simp
  refine tk 9 (.pointer (some ⟨w.heap.size, 2, none⟩)) rfl HSS ?_
  go_simp
  refine tk 10 (.string src) rfl HSS ?_
  go_simp
  refine tk 11 (.bool false) rfl HSS ?_
  go_simp
  refine wpAnyH_ready (rs := [8]) (by kernel_rfl) (by simp) ?_
  refine AllReadyH.cons rfl (fun K hK => ?_) AllReadyH.nil
  go_simp
  refine (HS.out _).mono ?_
  rintro e w' ⟨rfl, rfl⟩
  go_simp
  refine hK.out _ _ HSS (fun _ => ?_); clear hK K
  refine tk 12 (.bool false) rfl HSS ?_
  go_simp
  refine tk 13 (.bool false) rfl HSS ?_
  go_simp
  refine tk 14 (.bool false) rfl HSS ?_
  go_simp
  refine tk 15 (.string f) rfl HSS ?_
  go_simp
  refine wpAnyH_ready (rs := [16]) (by kernel_rfl) (by simp) ?_
  refine AllReadyH.cons rfl (fun K hK => ?_) AllReadyH.nil
  go_simp
  refine (HN.out _).mono ?_
  rintro e w' ⟨rfl, rfl⟩
  go_simp
  refine hK.out _ _ HSS (fun _ => ?_); clear hK K
  refine tk 17 (.bool true) rfl HSS ?_
  go_simp
  refine tk 18 (.pointer (some ⟨w.heap.size, 1, none⟩)) rfl HSS ?_
  go_simp
  refine tk 19 (.string name) rfl HSS ?_
  go_simp
  refine wpAnyH_ready (rs := [20]) (by kernel_rfl) (by simp) ?_
  refine AllReadyH.cons rfl (fun K hK => ?_) AllReadyH.nil
  go_simp
  refine (HFn.out _).mono ?_
  rintro e v1 ⟨rfl, hb1⟩
  have hB1 : Below w2.heap.size w2 v1 := ((Below.refl w2.heap.size w2).drew).trans (hb1.mono ((Below.refl w2.heap.size w2).drew).size)
  have HSS := HS2.out v1 hB1
  go_simp
  refine hK.out _ _ HSS (fun _ => ?_); clear hK K
  refine tk 21 (.bool true) rfl HSS ?_
  go_simp
  refine tk 22 (.bool true) rfl HSS ?_
  go_simp
  refine tk 23 (.bool true) rfl HSS ?_
  go_simp
  refine tk 24 (.bool true) rfl HSS ?_
  go_simp
  refine tu 25 rfl HSS ?_
  go_simp
  refine tu 26 rfl HSS ?_
  go_simp
  refine tu 27 rfl HSS ?_
  go_simp
  refine tu 28 rfl HSS ?_
  go_simp
  refine tu 29 rfl HSS ?_
  go_simp
  refine tu 30 rfl HSS ?_
  go_simp
  refine tu 31 rfl HSS ?_
  go_simp
  refine tu 32 rfl HSS ?_
  go_simp
  refine tk 33 (.bool true) rfl HSS ?_
  go_simp
  refine wpAnyH_done (by kernel_rfl) ?_ _
  exact HI.out _ _ _ _ _ _ _ _ _ _ _ _ _ _ _ _ _ _ _ _ _ _ _ _ _ _ _ _ _ _ _ _ _ _ _ ⟨by rw [HR.out]; rfl, hB1⟩

set_option maxRecDepth 1000000 in
set_option maxHeartbeats 8000000 in
theorem leafA8 (op n : Int) (name src f : ByteArray) (Ac Ae Ab Al : Option Addr) (nc cc ne ce nb cb nl cl : Nat) (w w2 : World)
    (oknm : okS name) (oksr : okS src) (oknf : okS f) (hx2 : IsBlk w2 w.heap.size 52 #[.int .i64 op, .string name, .string src, .int .i64 n, .slice Ac nc cc, .slice Ae ne ce, .slice Ab nb cb, .slice Al nl cl]) (j1 : inB f 110 = hN op) (j2 : inB f 115 = hS op) (hbn : hN op = true) (hbs : hS op = false) (hen : noS name = false) (hes : noS src = true) (hfn : freeB name = true) :
    SigA op name src f w w2 := by
  unfold SigA
  intros
  rename_i hI
  conv => arg 2; whnf
  obtain ⟨fs, hfs⟩ : ∃ b, freeB src = b := ⟨_, rfl⟩
  have HI := Lib.hid hI
  clear hI
  rw [hbn] at j1
  rw [hbs] at j2
  have HN := Lib.hid (fun W => in_at f 110 110 _ oknf rfl j1 W)
  have HS := Lib.hid (fun W => in_at f 115 115 _ oknf rfl j2 W)
  have hF1 := fun W => freeRef_any name W oknm
  have hF2 := fun W => freeRef_any src W oksr
  rw [hfn] at hF1
  rw [hfs] at hF2
  have HFn := Lib.hid hF1
  have HFs := Lib.hid hF2
  have HX := Lib.hid (fun W (hW : Below w2.heap.size w2 W) => hx2.as_was (hW.block _ hx2.lt))
  have HS2 := Lib.hid (fun W (hW : Below w2.heap.size w2 W) => And.intro (stBox' (HX.out W hW)).2.1 (stBox' (HX.out W hW)).2.2.1)
  clear j1 j2 oknf hF1 hF2 hx2
  have fname := str_some hen
  obtain ⟨gname, kname⟩ := str_no hen
  have fsrc := str_empty hes
  obtain ⟨gsrc, ksrc⟩ := str_yes hes
  have HR := Lib.hid (tA_of (name := name) (src := src) (op := op) hbn hbs hen hes hfn hfs)
  clear hbn hbs hen hes hfn hfs
  refine wp_region_held (S := fun W => W.cell? ⟨w.heap.size, 1, none⟩ = some (.string name) ∧ W.cell? ⟨w.heap.size, 2, none⟩ = some (.string src)) (by kernel_rfl) ?_
  change wpAnyH _ _ _ _ _ _ _ _ (World.drew _)
  have HSS := HS2.out _ (Below.refl w2.heap.size w2).drew
  refine tk 0 (.string f) rfl HSS ?_
  go_simp
  refine tk 2 (.pointer (some ⟨w.heap.size, 1, none⟩)) rfl HSS ?_
  go_simp
  refine tk 3 (.string name) rfl HSS ?_
  go_simp
  refine tk 4 (.bool true) rfl HSS ?_
  go_simp
  refine wpAnyH_ready (rs := [1]) (by kernel_rfl) (by simp) ?_
  refine AllReadyH.cons rfl (fun K hK => ?_) AllReadyH.nil
  go_simp
  refine (HN.out _).mono ?_
  rintro e w' ⟨rfl, rfl⟩
  go_simp
  refine hK.out _ _ HSS (fun _ => ?_); clear hK K
  refine tk 5 (.bool false) rfl HSS ?_
  go_simp
  refine tk 6 (.bool false) rfl HSS ?_
  go_simp
  refine tk 7 (.string f) rfl HSS ?_
  go_simp
  refine tk 9 (.pointer (some ⟨w.heap.size, 2, none⟩)) rfl HSS ?_
  go_simp
  refine tk 10 (.string src) rfl HSS ?_
  go_simp
  refine tk 11 (.bool false) rfl HSS ?_
  go_simp
  refine wpAnyH_ready (rs := [8]) (by kernel_rfl) (by simp) ?_
  refine AllReadyH.cons rfl (fun K hK => ?_) AllReadyH.nil
  go_simp
  refine (HS.out _).mono ?_
  rintro e w' ⟨rfl, rfl⟩
  go_simp
  refine hK.out _ _ HSS (fun _ => ?_); clear hK K
  refine tk 12 (.bool false) rfl HSS ?_
  go_simp
  refine tk 13 (.bool false) rfl HSS ?_
  go_simp
  refine tk 14 (.bool false) rfl HSS ?_
  go_simp
  refine tk 15 (.string f) rfl HSS ?_
  go_simp
  refine wpAnyH_ready (rs := [16]) (by kernel_rfl) (by simp) ?_
  refine AllReadyH.cons rfl (fun K hK => ?_) AllReadyH.nil
  go_simp
  refine (HN.out _).mono ?_
  rintro e w' ⟨rfl, rfl⟩
  go_simp
  refine hK.out _ _ HSS (fun _ => ?_); clear hK K
  refine tk 17 (.bool true) rfl HSS ?_
  go_simp
  refine tk 18 (.pointer (some ⟨w.heap.size, 1, none⟩)) rfl HSS ?_
  go_simp
  refine tk 19 (.string name) rfl HSS ?_
  go_simp
  refine wpAnyH_ready (rs := [20]) (by kernel_rfl) (by simp) ?_
  refine AllReadyH.cons rfl (fun K hK => ?_) AllReadyH.nil
  go_simp
  refine (HFn.out _).mono ?_
  rintro e v1 ⟨rfl, hb1⟩
  have hB1 : Below w2.heap.size w2 v1 := ((Below.refl w2.heap.size w2).drew).trans (hb1.mono ((Below.refl w2.heap.size w2).drew).size)
  have HSS := HS2.out v1 hB1
  go_simp
  refine hK.out _ _ HSS (fun _ => ?_); clear hK K
  refine tk 21 (.bool false) rfl HSS ?_
  go_simp
  refine tk 22 (.bool false) rfl HSS ?_
  go_simp
  refine tk 23 (.bool false) rfl HSS ?_
  go_simp
  refine tk 24 (.bool false) rfl HSS ?_
  go_simp
  refine tk 25 (.string f) rfl HSS ?_
  go_simp
  refine wpAnyH_ready (rs := [26]) (by kernel_rfl) (by simp) ?_
  refine AllReadyH.cons rfl (fun K hK => ?_) AllReadyH.nil
  go_simp
  refine (HS.out _).mono ?_
  rintro e w' ⟨rfl, rfl⟩
  go_simp
  refine hK.out _ _ HSS (fun _ => ?_); clear hK K
  refine tk 27 (.bool false) rfl HSS ?_
  go_simp
  refine tu 28 rfl HSS ?_
  go_simp
  refine tu 29 rfl HSS ?_
  go_simp
  refine tu 30 rfl HSS ?_
  go_simp
  refine tu 31 rfl HSS ?_
  go_simp
  refine tk 32 (.bool false) rfl HSS ?_
  go_simp
  refine tk 33 (.bool false) rfl HSS ?_
  go_simp
  refine wpAnyH_done (by kernel_rfl) ?_ _
  exact HI.out _ _ _ _ _ _ _ _ _ _ _ _ _ _ _ _ _ _ _ _ _ _ _ _ _ _ _ _ _ _ _ _ _ _ _ ⟨by rw [HR.out]; rfl, hB1⟩

set_option maxRecDepth 1000000 in
set_option maxHeartbeats 8000000 in
theorem leafA9 (op n : Int) (name src f : ByteArray) (Ac Ae Ab Al : Option Addr) (nc cc ne ce nb cb nl cl : Nat) (w w2 : World)
    (oknm : okS name) (oksr : okS src) (oknf : okS f) (hx2 : IsBlk w2 w.heap.size 52 #[.int .i64 op, .string name, .string src, .int .i64 n, .slice Ac nc cc, .slice Ae ne ce, .slice Ab nb cb, .slice Al nl cl]) (j1 : inB f 110 = hN op) (j2 : inB f 115 = hS op) (hbn : hN op = true) (hbs : hS op = true) (hen : noS name = false) (hes : noS src = false) (hfn : freeB name = false) :
    SigA op name src f w w2 := by
  unfold SigA
  intros
  rename_i hI
  conv => arg 2; whnf
  obtain ⟨fs, hfs⟩ : ∃ b, freeB src = b := ⟨_, rfl⟩
  have HI := Lib.hid hI
  clear hI
  rw [hbn] at j1
  rw [hbs] at j2
  have HN := Lib.hid (fun W => in_at f 110 110 _ oknf rfl j1 W)
  have HS := Lib.hid (fun W => in_at f 115 115 _ oknf rfl j2 W)
  have hF1 := fun W => freeRef_any name W oknm
  have hF2 := fun W => freeRef_any src W oksr
  rw [hfn] at hF1
  rw [hfs] at hF2
  have HFn := Lib.hid hF1
  have HFs := Lib.hid hF2
  have HX := Lib.hid (fun W (hW : Below w2.heap.size w2 W) => hx2.as_was (hW.block _ hx2.lt))
  have HS2 := Lib.hid (fun W (hW : Below w2.heap.size w2 W) => And.intro (stBox' (HX.out W hW)).2.1 (stBox' (HX.out W hW)).2.2.1)
  clear j1 j2 oknf hF1 hF2 hx2
  have fname := str_some hen
  obtain ⟨gname, kname⟩ := str_no hen
  have fsrc := str_some hes
  obtain ⟨gsrc, ksrc⟩ := str_no hes
  have HR := Lib.hid (tA_of (name := name) (src := src) (op := op) hbn hbs hen hes hfn hfs)
  clear hbn hbs hen hes hfn hfs
  refine wp_region_held (S := fun W => W.cell? ⟨w.heap.size, 1, none⟩ = some (.string name) ∧ W.cell? ⟨w.heap.size, 2, none⟩ = some (.string src)) (by kernel_rfl) ?_
  change wpAnyH _ _ _ _ _ _ _ _ (World.drew _)
  have HSS := HS2.out _ (Below.refl w2.heap.size w2).drew
  refine tk 0 (.string f) rfl HSS ?_
  go_simp
  refine tk 2 (.pointer (some ⟨w.heap.size, 1, none⟩)) rfl HSS ?_
  go_simp
  refine tk 3 (.string name) rfl HSS ?_
  go_simp
  refine tk 4 (.bool true) rfl HSS ?_
  go_simp
  refine wpAnyH_ready (rs := [1]) (by kernel_rfl) (by simp) ?_
  refine AllReadyH.cons rfl (fun K hK => ?_) AllReadyH.nil
  go_simp
  refine (HN.out _).mono ?_
  rintro e w' ⟨rfl, rfl⟩
  go_simp
  refine hK.out _ _ HSS (fun _ => ?_); clear hK K
  refine tk 5 (.bool false) rfl HSS ?_
  go_simp
  refine tk 6 (.bool false) rfl HSS ?_
  go_simp
  refine tk 7 (.string f) rfl HSS ?_
  go_simp
  refine tk 9 (.pointer (some ⟨w.heap.size, 2, none⟩)) rfl HSS ?_
  go_simp
  refine tk 10 (.string src) rfl HSS ?_
  go_simp
  refine tk 11 (.bool true) rfl HSS ?_
  go_simp
  refine wpAnyH_ready (rs := [8]) (by kernel_rfl) (by simp) ?_
  refine AllReadyH.cons rfl (fun K hK => ?_) AllReadyH.nil
  go_simp
  refine (HS.out _).mono ?_
  rintro e w' ⟨rfl, rfl⟩
  go_simp
  refine hK.out _ _ HSS (fun _ => ?_); clear hK K
  refine tk 12 (.bool false) rfl HSS ?_
  go_simp
  refine tk 13 (.bool false) rfl HSS ?_
  go_simp
  refine tk 14 (.bool false) rfl HSS ?_
  go_simp
  refine tk 15 (.string f) rfl HSS ?_
  go_simp
  refine wpAnyH_ready (rs := [16]) (by kernel_rfl) (by simp) ?_
  refine AllReadyH.cons rfl (fun K hK => ?_) AllReadyH.nil
  go_simp
  refine (HN.out _).mono ?_
  rintro e w' ⟨rfl, rfl⟩
  go_simp
  refine hK.out _ _ HSS (fun _ => ?_); clear hK K
  refine tk 17 (.bool true) rfl HSS ?_
  go_simp
  refine tk 18 (.pointer (some ⟨w.heap.size, 1, none⟩)) rfl HSS ?_
  go_simp
  refine tk 19 (.string name) rfl HSS ?_
  go_simp
  refine wpAnyH_ready (rs := [20]) (by kernel_rfl) (by simp) ?_
  refine AllReadyH.cons rfl (fun K hK => ?_) AllReadyH.nil
  go_simp
  refine (HFn.out _).mono ?_
  rintro e v1 ⟨rfl, hb1⟩
  have hB1 : Below w2.heap.size w2 v1 := ((Below.refl w2.heap.size w2).drew).trans (hb1.mono ((Below.refl w2.heap.size w2).drew).size)
  have HSS := HS2.out v1 hB1
  go_simp
  refine hK.out _ _ HSS (fun _ => ?_); clear hK K
  refine tk 21 (.bool true) rfl HSS ?_
  go_simp
  refine tk 22 (.bool true) rfl HSS ?_
  go_simp
  refine tk 23 (.bool true) rfl HSS ?_
  go_simp
  refine tk 24 (.bool true) rfl HSS ?_
  go_simp
  refine tu 25 rfl HSS ?_
  go_simp
  refine tu 26 rfl HSS ?_
  go_simp
  refine tu 27 rfl HSS ?_
  go_simp
  refine tu 28 rfl HSS ?_
  go_simp
  refine tu 29 rfl HSS ?_
  go_simp
  refine tu 30 rfl HSS ?_
  go_simp
  refine tu 31 rfl HSS ?_
  go_simp
  refine tu 32 rfl HSS ?_
  go_simp
  refine tk 33 (.bool true) rfl HSS ?_
  go_simp
  refine wpAnyH_done (by kernel_rfl) ?_ _
  exact HI.out _ _ _ _ _ _ _ _ _ _ _ _ _ _ _ _ _ _ _ _ _ _ _ _ _ _ _ _ _ _ _ _ _ _ _ ⟨by rw [HR.out]; rfl, hB1⟩

set_option maxRecDepth 1000000 in
set_option maxHeartbeats 8000000 in
theorem leafA10 (op n : Int) (name src f : ByteArray) (Ac Ae Ab Al : Option Addr) (nc cc ne ce nb cb nl cl : Nat) (w w2 : World)
    (oknm : okS name) (oksr : okS src) (oknf : okS f) (hx2 : IsBlk w2 w.heap.size 52 #[.int .i64 op, .string name, .string src, .int .i64 n, .slice Ac nc cc, .slice Ae ne ce, .slice Ab nb cb, .slice Al nl cl]) (j1 : inB f 110 = hN op) (j2 : inB f 115 = hS op) (hbn : hN op = true) (hbs : hS op = true) (hen : noS name = false) (hes : noS src = false) (hfn : freeB name = true) (hfs : freeB src = false) :
    SigA op name src f w w2 := by
  unfold SigA
  intros
  rename_i hI
  conv => arg 2; whnf
  have HI := Lib.hid hI
  clear hI
  rw [hbn] at j1
  rw [hbs] at j2
  have HN := Lib.hid (fun W => in_at f 110 110 _ oknf rfl j1 W)
  have HS := Lib.hid (fun W => in_at f 115 115 _ oknf rfl j2 W)
  have hF1 := fun W => freeRef_any name W oknm
  have hF2 := fun W => freeRef_any src W oksr
  rw [hfn] at hF1
  rw [hfs] at hF2
  have HFn := Lib.hid hF1
  have HFs := Lib.hid hF2
  have HX := Lib.hid (fun W (hW : Below w2.heap.size w2 W) => hx2.as_was (hW.block _ hx2.lt))
  have HS2 := Lib.hid (fun W (hW : Below w2.heap.size w2 W) => And.intro (stBox' (HX.out W hW)).2.1 (stBox' (HX.out W hW)).2.2.1)
  clear j1 j2 oknf hF1 hF2 hx2
  have fname := str_some hen
  obtain ⟨gname, kname⟩ := str_no hen
  have fsrc := str_some hes
  obtain ⟨gsrc, ksrc⟩ := str_no hes
  have HR := Lib.hid (tA_of (name := name) (src := src) (op := op) hbn hbs hen hes hfn hfs)
  clear hbn hbs hen hes hfn hfs
  refine wp_region_held (S := fun W => W.cell? ⟨w.heap.size, 1, none⟩ = some (.string name) ∧ W.cell? ⟨w.heap.size, 2, none⟩ = some (.string src)) (by kernel_rfl) ?_
  change wpAnyH _ _ _ _ _ _ _ _ (World.drew _)
  have HSS := HS2.out _ (Below.refl w2.heap.size w2).drew
  refine tk 0 (.string f) rfl HSS ?_
  go_simp
  refine tk 2 (.pointer (some ⟨w.heap.size, 1, none⟩)) rfl HSS ?_
  go_simp
  refine tk 3 (.string name) rfl HSS ?_
  go_simp
  refine tk 4 (.bool true) rfl HSS ?_
  go_simp
  refine wpAnyH_ready (rs := [1]) (by kernel_rfl) (by simp) ?_
  refine AllReadyH.cons rfl (fun K hK => ?_) AllReadyH.nil
  go_simp
  refine (HN.out _).mono ?_
  rintro e w' ⟨rfl, rfl⟩
  go_simp
  refine hK.out _ _ HSS (fun _ => ?_); clear hK K
  refine tk 5 (.bool false) rfl HSS ?_
  go_simp
  refine tk 6 (.bool false) rfl HSS ?_
  go_simp
  refine tk 7 (.string f) rfl HSS ?_
  go_simp
  refine tk 9 (.pointer (some ⟨w.heap.size, 2, none⟩)) rfl HSS ?_
  go_simp
  refine tk 10 (.string src) rfl HSS ?_
  go_simp
  refine tk 11 (.bool true) rfl HSS ?_
  go_simp
  refine wpAnyH_ready (rs := [8]) (by kernel_rfl) (by simp) ?_
  refine AllReadyH.cons rfl (fun K hK => ?_) AllReadyH.nil
  go_simp
  refine (HS.out _).mono ?_
  rintro e w' ⟨rfl, rfl⟩
  go_simp
  refine hK.out _ _ HSS (fun _ => ?_); clear hK K
  refine tk 12 (.bool false) rfl HSS ?_
  go_simp
  refine tk 13 (.bool false) rfl HSS ?_
  go_simp
  refine tk 14 (.bool false) rfl HSS ?_
  go_simp
  refine tk 15 (.string f) rfl HSS ?_
  go_simp
  refine wpAnyH_ready (rs := [16]) (by kernel_rfl) (by simp) ?_
  refine AllReadyH.cons rfl (fun K hK => ?_) AllReadyH.nil
  go_simp
  refine (HN.out _).mono ?_
  rintro e w' ⟨rfl, rfl⟩
  go_simp
  refine hK.out _ _ HSS (fun _ => ?_); clear hK K
  refine tk 17 (.bool true) rfl HSS ?_
  go_simp
  refine tk 18 (.pointer (some ⟨w.heap.size, 1, none⟩)) rfl HSS ?_
  go_simp
  refine tk 19 (.string name) rfl HSS ?_
  go_simp
  refine wpAnyH_ready (rs := [20]) (by kernel_rfl) (by simp) ?_
  refine AllReadyH.cons rfl (fun K hK => ?_) AllReadyH.nil
  go_simp
  refine (HFn.out _).mono ?_
  rintro e v1 ⟨rfl, hb1⟩
  have hB1 : Below w2.heap.size w2 v1 := ((Below.refl w2.heap.size w2).drew).trans (hb1.mono ((Below.refl w2.heap.size w2).drew).size)
  have HSS := HS2.out v1 hB1
  go_simp
  refine hK.out _ _ HSS (fun _ => ?_); clear hK K
  refine tk 21 (.bool false) rfl HSS ?_
  go_simp
  refine tk 22 (.bool false) rfl HSS ?_
  go_simp
  refine tk 23 (.bool false) rfl HSS ?_
  go_simp
  refine tk 24 (.bool false) rfl HSS ?_
  go_simp
  refine tk 25 (.string f) rfl HSS ?_
  go_simp
  refine wpAnyH_ready (rs := [26]) (by kernel_rfl) (by simp) ?_
  refine AllReadyH.cons rfl (fun K hK => ?_) AllReadyH.nil
  go_simp
  refine (HS.out _).mono ?_
  rintro e w' ⟨rfl, rfl⟩
  go_simp
  refine hK.out _ _ HSS (fun _ => ?_); clear hK K
  refine tk 27 (.bool true) rfl HSS ?_
  go_simp
  refine tk 28 (.pointer (some ⟨w.heap.size, 2, none⟩)) rfl HSS ?_
  go_simp
  refine tk 29 (.string src) rfl HSS ?_
  go_simp
  refine wpAnyH_ready (rs := [30]) (by kernel_rfl) (by simp) ?_
  refine AllReadyH.cons rfl (fun K hK => ?_) AllReadyH.nil
  go_simp
  refine (HFs.out _).mono ?_
  rintro e v2 ⟨rfl, hb2⟩
  have hB2 : Below w2.heap.size w2 v2 := (hB1).trans (hb2.mono (hB1).size)
  have HSS := HS2.out v2 hB2
  go_simp
  refine hK.out _ _ HSS (fun _ => ?_); clear hK K
  refine tk 31 (.bool true) rfl HSS ?_
  go_simp
  refine tk 32 (.bool true) rfl HSS ?_
  go_simp
  refine tk 33 (.bool true) rfl HSS ?_
  go_simp
  refine wpAnyH_done (by kernel_rfl) ?_ _
  exact HI.out _ _ _ _ _ _ _ _ _ _ _ _ _ _ _ _ _ _ _ _ _ _ _ _ _ _ _ _ _ _ _ _ _ _ _ ⟨by rw [HR.out]; rfl, hB2⟩

set_option maxRecDepth 1000000 in
set_option maxHeartbeats 8000000 in
theorem leafA11 (op n : Int) (name src f : ByteArray) (Ac Ae Ab Al : Option Addr) (nc cc ne ce nb cb nl cl : Nat) (w w2 : World)
    (oknm : okS name) (oksr : okS src) (oknf : okS f) (hx2 : IsBlk w2 w.heap.size 52 #[.int .i64 op, .string name, .string src, .int .i64 n, .slice Ac nc cc, .slice Ae ne ce, .slice Ab nb cb, .slice Al nl cl]) (j1 : inB f 110 = hN op) (j2 : inB f 115 = hS op) (hbn : hN op = true) (hbs : hS op = true) (hen : noS name = false) (hes : noS src = false) (hfn : freeB name = true) (hfs : freeB src = true) :
    SigA op name src f w w2 := by
  unfold SigA
  intros
  rename_i hI
  conv => arg 2; whnf
  have HI := Lib.hid hI
  clear hI
  rw [hbn] at j1
  rw [hbs] at j2
  have HN := Lib.hid (fun W => in_at f 110 110 _ oknf rfl j1 W)
  have HS := Lib.hid (fun W => in_at f 115 115 _ oknf rfl j2 W)
  have hF1 := fun W => freeRef_any name W oknm
  have hF2 := fun W => freeRef_any src W oksr
  rw [hfn] at hF1
  rw [hfs] at hF2
  have HFn := Lib.hid hF1
  have HFs := Lib.hid hF2
  have HX := Lib.hid (fun W (hW : Below w2.heap.size w2 W) => hx2.as_was (hW.block _ hx2.lt))
  have HS2 := Lib.hid (fun W (hW : Below w2.heap.size w2 W) => And.intro (stBox' (HX.out W hW)).2.1 (stBox' (HX.out W hW)).2.2.1)
  clear j1 j2 oknf hF1 hF2 hx2
  have fname := str_some hen
  obtain ⟨gname, kname⟩ := str_no hen
  have fsrc := str_some hes
  obtain ⟨gsrc, ksrc⟩ := str_no hes
  have HR := Lib.hid (tA_of (name := name) (src := src) (op := op) hbn hbs hen hes hfn hfs)
  clear hbn hbs hen hes hfn hfs
  refine wp_region_held (S := fun W => W.cell? ⟨w.heap.size, 1, none⟩ = some (.string name) ∧ W.cell? ⟨w.heap.size, 2, none⟩ = some (.string src)) (by kernel_rfl) ?_
  change wpAnyH _ _ _ _ _ _ _ _ (World.drew _)
  have HSS := HS2.out _ (Below.refl w2.heap.size w2).drew
  refine tk 0 (.string f) rfl HSS ?_
  go_simp
  refine tk 2 (.pointer (some ⟨w.heap.size, 1, none⟩)) rfl HSS ?_
  go_simp
  refine tk 3 (.string name) rfl HSS ?_
  go_simp
  refine tk 4 (.bool true) rfl HSS ?_
  go_simp
  refine wpAnyH_ready (rs := [1]) (by kernel_rfl) (by simp) ?_
  refine AllReadyH.cons rfl (fun K hK => ?_) AllReadyH.nil
  go_simp
  refine (HN.out _).mono ?_
  rintro e w' ⟨rfl, rfl⟩
  go_simp
  refine hK.out _ _ HSS (fun _ => ?_); clear hK K
  refine tk 5 (.bool false) rfl HSS ?_
  go_simp
  refine tk 6 (.bool false) rfl HSS ?_
  go_simp
  refine tk 7 (.string f) rfl HSS ?_
  go_simp
  refine tk 9 (.pointer (some ⟨w.heap.size, 2, none⟩)) rfl HSS ?_
  go_simp
  refine tk 10 (.string src) rfl HSS ?_
  go_simp
  refine tk 11 (.bool true) rfl HSS ?_
  go_simp
  refine wpAnyH_ready (rs := [8]) (by kernel_rfl) (by simp) ?_
  refine AllReadyH.cons rfl (fun K hK => ?_) AllReadyH.nil
  go_simp
  refine (HS.out _).mono ?_
  rintro e w' ⟨rfl, rfl⟩
  go_simp
  refine hK.out _ _ HSS (fun _ => ?_); clear hK K
  refine tk 12 (.bool false) rfl HSS ?_
  go_simp
  refine tk 13 (.bool false) rfl HSS ?_
  go_simp
  refine tk 14 (.bool false) rfl HSS ?_
  go_simp
  refine tk 15 (.string f) rfl HSS ?_
  go_simp
  refine wpAnyH_ready (rs := [16]) (by kernel_rfl) (by simp) ?_
  refine AllReadyH.cons rfl (fun K hK => ?_) AllReadyH.nil
  go_simp
  refine (HN.out _).mono ?_
  rintro e w' ⟨rfl, rfl⟩
  go_simp
  refine hK.out _ _ HSS (fun _ => ?_); clear hK K
  refine tk 17 (.bool true) rfl HSS ?_
  go_simp
  refine tk 18 (.pointer (some ⟨w.heap.size, 1, none⟩)) rfl HSS ?_
  go_simp
  refine tk 19 (.string name) rfl HSS ?_
  go_simp
  refine wpAnyH_ready (rs := [20]) (by kernel_rfl) (by simp) ?_
  refine AllReadyH.cons rfl (fun K hK => ?_) AllReadyH.nil
  go_simp
  refine (HFn.out _).mono ?_
  rintro e v1 ⟨rfl, hb1⟩
  have hB1 : Below w2.heap.size w2 v1 := ((Below.refl w2.heap.size w2).drew).trans (hb1.mono ((Below.refl w2.heap.size w2).drew).size)
  have HSS := HS2.out v1 hB1
  go_simp
  refine hK.out _ _ HSS (fun _ => ?_); clear hK K
  refine tk 21 (.bool false) rfl HSS ?_
  go_simp
  refine tk 22 (.bool false) rfl HSS ?_
  go_simp
  refine tk 23 (.bool false) rfl HSS ?_
  go_simp
  refine tk 24 (.bool false) rfl HSS ?_
  go_simp
  refine tk 25 (.string f) rfl HSS ?_
  go_simp
  refine wpAnyH_ready (rs := [26]) (by kernel_rfl) (by simp) ?_
  refine AllReadyH.cons rfl (fun K hK => ?_) AllReadyH.nil
  go_simp
  refine (HS.out _).mono ?_
  rintro e w' ⟨rfl, rfl⟩
  go_simp
  refine hK.out _ _ HSS (fun _ => ?_); clear hK K
  refine tk 27 (.bool true) rfl HSS ?_
  go_simp
  refine tk 28 (.pointer (some ⟨w.heap.size, 2, none⟩)) rfl HSS ?_
  go_simp
  refine tk 29 (.string src) rfl HSS ?_
  go_simp
  refine wpAnyH_ready (rs := [30]) (by kernel_rfl) (by simp) ?_
  refine AllReadyH.cons rfl (fun K hK => ?_) AllReadyH.nil
  go_simp
  refine (HFs.out _).mono ?_
  rintro e v2 ⟨rfl, hb2⟩
  have hB2 : Below w2.heap.size w2 v2 := (hB1).trans (hb2.mono (hB1).size)
  have HSS := HS2.out v2 hB2
  go_simp
  refine hK.out _ _ HSS (fun _ => ?_); clear hK K
  refine tk 31 (.bool false) rfl HSS ?_
  go_simp
  refine tk 32 (.bool false) rfl HSS ?_
  go_simp
  refine tk 33 (.bool false) rfl HSS ?_
  go_simp
  refine wpAnyH_done (by kernel_rfl) ?_ _
  exact HI.out _ _ _ _ _ _ _ _ _ _ _ _ _ _ _ _ _ _ _ _ _ _ _ _ _ _ _ _ _ _ _ _ _ _ _ ⟨by rw [HR.out]; rfl, hB2⟩

set_option maxRecDepth 1000000 in
set_option maxHeartbeats 8000000 in
theorem leafA12 (op n : Int) (name src f : ByteArray) (Ac Ae Ab Al : Option Addr) (nc cc ne ce nb cb nl cl : Nat) (w w2 : World)
    (oknm : okS name) (oksr : okS src) (oknf : okS f) (hx2 : IsBlk w2 w.heap.size 52 #[.int .i64 op, .string name, .string src, .int .i64 n, .slice Ac nc cc, .slice Ae ne ce, .slice Ab nb cb, .slice Al nl cl]) (j1 : inB f 110 = hN op) (j2 : inB f 115 = hS op) (hbn : hN op = true) (hbs : hS op = true) (hen : noS name = false) (hes : noS src = true) :
    SigA op name src f w w2 := by
  unfold SigA
  intros
  rename_i hI
  conv => arg 2; whnf
  obtain ⟨fn, hfn⟩ : ∃ b, freeB name = b := ⟨_, rfl⟩
  obtain ⟨fs, hfs⟩ : ∃ b, freeB src = b := ⟨_, rfl⟩
  have HI := Lib.hid hI
  clear hI
  rw [hbn] at j1
  rw [hbs] at j2
  have HN := Lib.hid (fun W => in_at f 110 110 _ oknf rfl j1 W)
  have HS := Lib.hid (fun W => in_at f 115 115 _ oknf rfl j2 W)
  have hF1 := fun W => freeRef_any name W oknm
  have hF2 := fun W => freeRef_any src W oksr
  rw [hfn] at hF1
  rw [hfs] at hF2
  have HFn := Lib.hid hF1
  have HFs := Lib.hid hF2
  have HX := Lib.hid (fun W (hW : Below w2.heap.size w2 W) => hx2.as_was (hW.block _ hx2.lt))
  have HS2 := Lib.hid (fun W (hW : Below w2.heap.size w2 W) => And.intro (stBox' (HX.out W hW)).2.1 (stBox' (HX.out W hW)).2.2.1)
  clear j1 j2 oknf hF1 hF2 hx2
  have fname := str_some hen
  obtain ⟨gname, kname⟩ := str_no hen
  have fsrc := str_empty hes
  obtain ⟨gsrc, ksrc⟩ := str_yes hes
  have HR := Lib.hid (tA_of (name := name) (src := src) (op := op) hbn hbs hen hes hfn hfs)
  clear hbn hbs hen hes hfn hfs
  refine wp_region_held (S := fun W => W.cell? ⟨w.heap.size, 1, none⟩ = some (.string name) ∧ W.cell? ⟨w.heap.size, 2, none⟩ = some (.string src)) (by kernel_rfl) ?_
  change wpAnyH _ _ _ _ _ _ _ _ (World.drew _)
  have HSS := HS2.out _ (Below.refl w2.heap.size w2).drew
  refine tk 0 (.string f) rfl HSS ?_
  go_simp
  refine tk 2 (.pointer (some ⟨w.heap.size, 1, none⟩)) rfl HSS ?_
  go_simp
  refine tk 3 (.string name) rfl HSS ?_
  go_simp
  refine tk 4 (.bool true) rfl HSS ?_
  go_simp
  refine wpAnyH_ready (rs := [1]) (by kernel_rfl) (by simp) ?_
  refine AllReadyH.cons rfl (fun K hK => ?_) AllReadyH.nil
  go_simp
  refine (HN.out _).mono ?_
  rintro e w' ⟨rfl, rfl⟩
  go_simp
  refine hK.out _ _ HSS (fun _ => ?_); clear hK K
  refine tk 5 (.bool false) rfl HSS ?_
  go_simp
  refine tk 6 (.bool false) rfl HSS ?_
  go_simp
  refine tk 7 (.string f) rfl HSS ?_
  go_simp
  refine tk 9 (.pointer (some ⟨w.heap.size, 2, none⟩)) rfl HSS ?_
  go_simp
  refine tk 10 (.string src) rfl HSS ?_
  go_simp
  refine tk 11 (.bool false) rfl HSS ?_
  go_simp
  refine wpAnyH_ready (rs := [8]) (by kernel_rfl) (by simp) ?_
  refine AllReadyH.cons rfl (fun K hK => ?_) AllReadyH.nil
  go_simp
  refine (HS.out _).mono ?_
  rintro e w' ⟨rfl, rfl⟩
  go_simp
  refine hK.out _ _ HSS (fun _ => ?_); clear hK K
  refine tk 12 (.bool true) rfl HSS ?_
  go_simp
  refine tk 13 (.bool true) rfl HSS ?_
  go_simp
  refine tk 14 (.bool true) rfl HSS ?_
  go_simp
  refine tu 15 rfl HSS ?_
  go_simp
  refine tu 16 rfl HSS ?_
  go_simp
  refine tu 17 rfl HSS ?_
  go_simp
  refine tu 18 rfl HSS ?_
  go_simp
  refine tu 19 rfl HSS ?_
  go_simp
  refine tu 20 rfl HSS ?_
  go_simp
  refine tu 21 rfl HSS ?_
  go_simp
  refine tu 22 rfl HSS ?_
  go_simp
  refine tk 23 (.bool true) rfl HSS ?_
  go_simp
  refine tk 24 (.bool true) rfl HSS ?_
  go_simp
  refine tu 25 rfl HSS ?_
  go_simp
  refine tu 26 rfl HSS ?_
  go_simp
  refine tu 27 rfl HSS ?_
  go_simp
  refine tu 28 rfl HSS ?_
  go_simp
  refine tu 29 rfl HSS ?_
  go_simp
  refine tu 30 rfl HSS ?_
  go_simp
  refine tu 31 rfl HSS ?_
  go_simp
  refine tu 32 rfl HSS ?_
  go_simp
  refine tk 33 (.bool true) rfl HSS ?_
  go_simp
  refine wpAnyH_done (by kernel_rfl) ?_ _
  exact HI.out _ _ _ _ _ _ _ _ _ _ _ _ _ _ _ _ _ _ _ _ _ _ _ _ _ _ _ _ _ _ _ _ _ _ _ ⟨by rw [HR.out]; rfl, (Below.refl w2.heap.size w2).drew⟩

set_option maxRecDepth 1000000 in
set_option maxHeartbeats 8000000 in
theorem leafA13 (op n : Int) (name src f : ByteArray) (Ac Ae Ab Al : Option Addr) (nc cc ne ce nb cb nl cl : Nat) (w w2 : World)
    (oknm : okS name) (oksr : okS src) (oknf : okS f) (hx2 : IsBlk w2 w.heap.size 52 #[.int .i64 op, .string name, .string src, .int .i64 n, .slice Ac nc cc, .slice Ae ne ce, .slice Ab nb cb, .slice Al nl cl]) (j1 : inB f 110 = hN op) (j2 : inB f 115 = hS op) (hbn : hN op = true) (hen : noS name = true) :
    SigA op name src f w w2 := by
  unfold SigA
  intros
  rename_i hI
  conv => arg 2; whnf
  obtain ⟨bs, hbs⟩ : ∃ b, hS op = b := ⟨_, rfl⟩
  obtain ⟨es, hes⟩ : ∃ b, noS src = b := ⟨_, rfl⟩
  obtain ⟨fn, hfn⟩ : ∃ b, freeB name = b := ⟨_, rfl⟩
  obtain ⟨fs, hfs⟩ : ∃ b, freeB src = b := ⟨_, rfl⟩
  have HI := Lib.hid hI
  clear hI
  rw [hbn] at j1
  rw [hbs] at j2
  have HN := Lib.hid (fun W => in_at f 110 110 _ oknf rfl j1 W)
  have HS := Lib.hid (fun W => in_at f 115 115 _ oknf rfl j2 W)
  have hF1 := fun W => freeRef_any name W oknm
  have hF2 := fun W => freeRef_any src W oksr
  rw [hfn] at hF1
  rw [hfs] at hF2
  have HFn := Lib.hid hF1
  have HFs := Lib.hid hF2
  have HX := Lib.hid (fun W (hW : Below w2.heap.size w2 W) => hx2.as_was (hW.block _ hx2.lt))
  have HS2 := Lib.hid (fun W (hW : Below w2.heap.size w2 W) => And.intro (stBox' (HX.out W hW)).2.1 (stBox' (HX.out W hW)).2.2.1)
  clear j1 j2 oknf hF1 hF2 hx2
  have fname := str_empty hen
  obtain ⟨gname, kname⟩ := str_yes hen
  have HR := Lib.hid (tA_of (name := name) (src := src) (op := op) hbn hbs hen hes hfn hfs)
  clear hbn hbs hen hes hfn hfs
  refine wp_region_held (S := fun W => W.cell? ⟨w.heap.size, 1, none⟩ = some (.string name) ∧ W.cell? ⟨w.heap.size, 2, none⟩ = some (.string src)) (by kernel_rfl) ?_
  change wpAnyH _ _ _ _ _ _ _ _ (World.drew _)
  have HSS := HS2.out _ (Below.refl w2.heap.size w2).drew
  refine tk 0 (.string f) rfl HSS ?_
  go_simp
  refine tk 2 (.pointer (some ⟨w.heap.size, 1, none⟩)) rfl HSS ?_
  go_simp
  refine tk 3 (.string name) rfl HSS ?_
  go_simp
  refine tk 4 (.bool false) rfl HSS ?_
  go_simp
  refine wpAnyH_ready (rs := [1]) (by kernel_rfl) (by simp) ?_
  refine AllReadyH.cons rfl (fun K hK => ?_) AllReadyH.nil
  go_simp
  refine (HN.out _).mono ?_
  rintro e w' ⟨rfl, rfl⟩
  go_simp
  refine hK.out _ _ HSS (fun _ => ?_); clear hK K
  refine tk 5 (.bool true) rfl HSS ?_
  go_simp
  refine tk 6 (.bool true) rfl HSS ?_
  go_simp
  refine tu 7 rfl HSS ?_
  go_simp
  refine tu 8 rfl HSS ?_
  go_simp
  refine tu 9 rfl HSS ?_
  go_simp
  refine tu 10 rfl HSS ?_
  go_simp
  refine tu 11 rfl HSS ?_
  go_simp
  refine tu 12 rfl HSS ?_
  go_simp
  refine tk 13 (.bool true) rfl HSS ?_
  go_simp
  refine tk 14 (.bool true) rfl HSS ?_
  go_simp
  refine tu 15 rfl HSS ?_
  go_simp
  refine tu 16 rfl HSS ?_
  go_simp
  refine tu 17 rfl HSS ?_
  go_simp
  refine tu 18 rfl HSS ?_
  go_simp
  refine tu 19 rfl HSS ?_
  go_simp
  refine tu 20 rfl HSS ?_
  go_simp
  refine tu 21 rfl HSS ?_
  go_simp
  refine tu 22 rfl HSS ?_
  go_simp
  refine tk 23 (.bool true) rfl HSS ?_
  go_simp
  refine tk 24 (.bool true) rfl HSS ?_
  go_simp
  refine tu 25 rfl HSS ?_
  go_simp
  refine tu 26 rfl HSS ?_
  go_simp
  refine tu 27 rfl HSS ?_
  go_simp
  refine tu 28 rfl HSS ?_
  go_simp
  refine tu 29 rfl HSS ?_
  go_simp
  refine tu 30 rfl HSS ?_
  go_simp
  refine tu 31 rfl HSS ?_
  go_simp
  refine tu 32 rfl HSS ?_
  go_simp
  refine tk 33 (.bool true) rfl HSS ?_
  go_simp
  refine wpAnyH_done (by kernel_rfl) ?_ _
  exact HI.out _ _ _ _ _ _ _ _ _ _ _ _ _ _ _ _ _ _ _ _ _ _ _ _ _ _ _ _ _ _ _ _ _ _ _ ⟨by rw [HR.out]; rfl, (Below.refl w2.heap.size w2).drew⟩
end Go.Proofs.Ytgihhkfppnhdpaa

namespace Go.Proofs.Ytgihhkfppnhdpaa
open Go.RowKit Go.Afx

set_option maxRecDepth 1000000 in
theorem phaseA (op n : Int) (name src f : ByteArray) (Ac Ae Ab Al : Option Addr) (nc cc ne ce nb cb nl cl : Nat) (w w2 : World)
    (oknm : okS name) (oksr : okS src) (oknf : okS f) (hx2 : IsBlk w2 w.heap.size 52 #[.int .i64 op, .string name, .string src, .int .i64 n, .slice Ac nc cc, .slice Ae ne ce, .slice Ab nb cb, .slice Al nl cl]) (j1 : inB f 110 = hN op) (j2 : inB f 115 = hS op) :
    SigA op name src f w w2 := by
  cases hbn : hN op
  · skip
    cases hen : noS name
    · skip
      exact leafA0 op n name src f Ac Ae Ab Al nc cc ne ce nb cb nl cl w w2 oknm oksr oknf hx2 j1 j2 hbn hen
    · skip
      cases hbs : hS op
      · skip
        cases hes : noS src
        · skip
          exact leafA1 op n name src f Ac Ae Ab Al nc cc ne ce nb cb nl cl w w2 oknm oksr oknf hx2 j1 j2 hbn hbs hen hes
        · skip
          exact leafA2 op n name src f Ac Ae Ab Al nc cc ne ce nb cb nl cl w w2 oknm oksr oknf hx2 j1 j2 hbn hbs hen hes
      · skip
        cases hes : noS src
        · skip
          cases hfs : freeB src
          · skip
            exact leafA3 op n name src f Ac Ae Ab Al nc cc ne ce nb cb nl cl w w2 oknm oksr oknf hx2 j1 j2 hbn hbs hen hes hfs
          · skip
            exact leafA4 op n name src f Ac Ae Ab Al nc cc ne ce nb cb nl cl w w2 oknm oksr oknf hx2 j1 j2 hbn hbs hen hes hfs
        · skip
          exact leafA5 op n name src f Ac Ae Ab Al nc cc ne ce nb cb nl cl w w2 oknm oksr oknf hx2 j1 j2 hbn hbs hen hes
  · skip
    cases hen : noS name
    · skip
      cases hbs : hS op
      · skip
        cases hes : noS src
        · skip
          exact leafA6 op n name src f Ac Ae Ab Al nc cc ne ce nb cb nl cl w w2 oknm oksr oknf hx2 j1 j2 hbn hbs hen hes
        · skip
          cases hfn : freeB name
          · skip
            exact leafA7 op n name src f Ac Ae Ab Al nc cc ne ce nb cb nl cl w w2 oknm oksr oknf hx2 j1 j2 hbn hbs hen hes hfn
          · skip
            exact leafA8 op n name src f Ac Ae Ab Al nc cc ne ce nb cb nl cl w w2 oknm oksr oknf hx2 j1 j2 hbn hbs hen hes hfn
      · skip
        cases hes : noS src
        · skip
          cases hfn : freeB name
          · skip
            exact leafA9 op n name src f Ac Ae Ab Al nc cc ne ce nb cb nl cl w w2 oknm oksr oknf hx2 j1 j2 hbn hbs hen hes hfn
          · skip
            cases hfs : freeB src
            · skip
              exact leafA10 op n name src f Ac Ae Ab Al nc cc ne ce nb cb nl cl w w2 oknm oksr oknf hx2 j1 j2 hbn hbs hen hes hfn hfs
            · skip
              exact leafA11 op n name src f Ac Ae Ab Al nc cc ne ce nb cb nl cl w w2 oknm oksr oknf hx2 j1 j2 hbn hbs hen hes hfn hfs
        · skip
          exact leafA12 op n name src f Ac Ae Ab Al nc cc ne ce nb cb nl cl w w2 oknm oksr oknf hx2 j1 j2 hbn hbs hen hes
    · skip
      exact leafA13 op n name src f Ac Ae Ab Al nc cc ne ce nb cb nl cl w w2 oknm oksr oknf hx2 j1 j2 hbn hen
end Go.Proofs.Ytgihhkfppnhdpaa

namespace Go.Proofs.Ytgihhkfppnhdpaa
open Go.RowKit Go.Afx

def findBlk (n : Nat) : Code → Option Code
  | .loop c => findBlk n c
  | .seq a b => match findBlk n a with
    | some c => some c
    | none => findBlk n b
  | .block i c => if i == n then some (.block i c) else findBlk n c
  | .scope c => findBlk n c
  | .cond _ a b => match findBlk n a with
    | some c => some c
    | none => findBlk n b
  | _ => none
noncomputable def builtBlock (n : Nat) : Code := ((Try.f44.body.bind (findBlk n)).getD .skip)
set_option maxRecDepth 100000 in
set_option maxHeartbeats 40000000 in
theorem blkCols (F : Nat → Prop) (cols : List ByteArray) (op n : Int) (name src : ByteArray) (Ac Ae Ab Al : Option Addr) (nc cc ne ce nb cb nl cl : Nat) (w w2 w6 : World) {x0 x2 x3 x4 x6 x7 x8 x9 x10 x11 x12 x13 x14 x15 x16 x17 x18 x19 x20 x21 x22 x23 x24 x25 x26 x27 x28 x29 x30 x31 x32 x33 x34 x35 x36 x37 x38 x39 x40 x41 x42 x43 x44 x45 x46 x47 x48 x49 x50 x51 x52 x53 x54 x55 x56 x57 x58 x59 x60 x61 x62 x63 x64 x65 x66 x67 x68 x69 x70 x71 x72 x73 x74 x75 x76 x77 x78 x79 x80 x81 x82 x83 x84 x85 x86 x87 x88 x89 x90 x91 x92 x93 x94 x95 x96 x97 x98 x99 x100 x101 x102 x103 x104 x105 x106 x107 x108 x109 x110 x111 x112 x113 x114 x115 x116 x117 x118 x119 x120 x121 x122 x123 x124 x125 x126 x127 x128 x129 x130 x131 x132 x133 x134 x135 x136 x137 x138 x139 x140 x141 x142 x143 x144 x145 x146 x147 x148 x149 x150 x151 x152 x153 x154 x155 x156 x157 x158 x159 x160 x161 x162 x163 x164 x165 x166 x167 x168 x169 x170 x171 x172 x173 x174 x175 x176 x177 x178 x179 x180 x181 x182 x183 x184 x185 x186 x187 x188 x189 x190 x191 x192 x193 x194 x195 x196 x197 x198 x199 : Value} {I : Act → World → Prop} {R : Ending → World → Prop}
    (hx : IsBlk w2 w.heap.size 52 #[.int .i64 op, .string name, .string src, .int .i64 n, .slice Ac nc cc, .slice Ae ne ce, .slice Ab nb cb, .slice Al nl cl]) (hB : Below w2.heap.size w2 w6) (hcl : LsAt F w2 1 SRow Ac nc cc cols) (hnc8 : nc ≤ 8)
    (hRet : ∀ W, (cols.all freeB && decide cols.Nodup) = false → Below w2.heap.size w2 W → R (.returned (.bool false)) W)
    (hI : ∀ (y2 y5 y6 y113 y114 y115 y116 y117 y118 y119 y120 y121 y122 y123 y124 y125 y126 y127 y128 y129 y130 y131 y132 y133 y134 y135 y136 y137 y138 y139 y140 y141 y142 : Value) (W : World), Below w2.heap.size w2 W → cols.all freeB = true → decide cols.Nodup = true → I ⟨#[x0, .pointer (some ⟨w.heap.size, 0, none⟩), y2, x3, x4, y5, y6, x7, x8, x9, x10, x11, x12, x13, x14, x15, x16, x17, x18, x19, x20, x21, x22, x23, x24, x25, x26, x27, x28, x29, x30, x31, x32, x33, x34, x35, x36, x37, x38, x39, x40, x41, x42, x43, x44, x45, x46, x47, x48, x49, x50, x51, x52, x53, x54, x55, x56, x57, x58, x59, x60, x61, x62, x63, x64, x65, x66, x67, x68, x69, x70, x71, x72, x73, x74, x75, x76, x77, x78, x79, x80, x81, x82, x83, x84, x85, x86, x87, x88, x89, x90, x91, x92, x93, x94, x95, x96, x97, x98, x99, x100, x101, x102, x103, x104, x105, x106, x107, x108, x109, x110, x111, x112, y113, y114, y115, y116, y117, y118, y119, y120, y121, y122, y123, y124, y125, y126, y127, y128, y129, y130, y131, y132, y133, y134, y135, y136, y137, y138, y139, y140, y141, y142, x143, x144, x145, x146, x147, x148, x149, x150, x151, x152, x153, x154, x155, x156, x157, x158, x159, x160, x161, x162, x163, x164, x165, x166, x167, x168, x169, x170, x171, x172, x173, x174, x175, x176, x177, x178, x179, x180, x181, x182, x183, x184, x185, x186, x187, x188, x189, x190, x191, x192, x193, x194, x195, x196, x197, x198, x199], []⟩ W) :
    Code.wp Try.prog (builtBlock 0) (Exit.then I (bodyPost Try.prog Try.f44 R)) ⟨#[x0, .pointer (some ⟨w.heap.size, 0, none⟩), x2, x3, x4, .int .i64 0, x6, x7, x8, x9, x10, x11, x12, x13, x14, x15, x16, x17, x18, x19, x20, x21, x22, x23, x24, x25, x26, x27, x28, x29, x30, x31, x32, x33, x34, x35, x36, x37, x38, x39, x40, x41, x42, x43, x44, x45, x46, x47, x48, x49, x50, x51, x52, x53, x54, x55, x56, x57, x58, x59, x60, x61, x62, x63, x64, x65, x66, x67, x68, x69, x70, x71, x72, x73, x74, x75, x76, x77, x78, x79, x80, x81, x82, x83, x84, x85, x86, x87, x88, x89, x90, x91, x92, x93, x94, x95, x96, x97, x98, x99, x100, x101, x102, x103, x104, x105, x106, x107, x108, x109, x110, x111, x112, x113, x114, x115, x116, x117, x118, x119, x120, x121, x122, x123, x124, x125, x126, x127, x128, x129, x130, x131, x132, x133, x134, x135, x136, x137, x138, x139, x140, x141, x142, x143, x144, x145, x146, x147, x148, x149, x150, x151, x152, x153, x154, x155, x156, x157, x158, x159, x160, x161, x162, x163, x164, x165, x166, x167, x168, x169, x170, x171, x172, x173, x174, x175, x176, x177, x178, x179, x180, x181, x182, x183, x184, x185, x186, x187, x188, x189, x190, x191, x192, x193, x194, x195, x196, x197, x198, x199], []⟩ w6 := by
  have Hcl := Lib.hid (LsAt.len hcl)
  have hnc := LsAt.n_le hcl
  conv => arg 2; whnf
  have HX := Lib.hid (fun W (hW : Below w2.heap.size w2 W) => hx.as_was (hW.block _ hx.lt))
  have Hcl2 := Lib.hid (fun W (hW : Below w2.heap.size w2 W) => hcl.below hW)
  have H26 := Lib.hid hB
  have HI := Lib.hid hI
  have HRt := Lib.hid hRet
  obtain ⟨z0, z1, z2, z3, z4, z5, z6, z7, zl⟩ := stBox' (HX.out w6 H26.out)
  clear hx hB hI hRet hcl
  go_wp2_with fail
  go_loopw [5] (fun i wr => ∃ k : Nat, k ≤ nc ∧ i = .int .i64 k ∧ (∀ y ∈ cols.take k, freeB y = true) ∧ (cols.take k).Nodup ∧ Below w2.heap.size w2 wr) (fun i _ => nc - (intOf i).toNat)
  case atStart => exact ⟨0, Nat.zero_le _, rfl, by simp, by simp, H26.out⟩
  case round =>
    clear z0 z1 z2 z3 z4 z5 z6 z7 zl
    generalize wr = w7 at *
    obtain ⟨k, hk, rfl, hfr, hnd, hB7⟩ := hrel
    have Hfr := Lib.hid hfr
    have Hnd := Lib.hid hnd
    skip
    have H27 := Lib.hid hB7
    obtain ⟨z0, z1, z2, z3, z4, z5, z6, z7, zl⟩ := stBox' (HX.out w7 hB7)
    clear hfr hnd hB7
    by_cases hlt : k < nc
    · obtain ⟨b, o, r, cN, rfl, hbl', _, hck, _, hp, hc⟩ := (Hcl2.out w7 H27.out).get hlt
      obtain ⟨rfl, okc⟩ := hp
      have hc0 := hc 0 _ rfl
      rw [Nat.mul_one, Nat.add_zero] at hc0
      have Hck := Lib.hid hck
      obtain ⟨q, Hq⟩ : ∃ q, Hid (freeB cN = q) := ⟨_, rfl⟩
      have hFc := fun W => freeRef_any cN W okc
      rw [Hq.out] at hFc
      have HFc := Lib.hid hFc
      clear hc hck hFc
      cases q
      · have Hf : Hid ((cols.all freeB && decide cols.Nodup) = false) := Lib.hid (by
          have h1 : cols.all freeB = false := by rw [List.all_eq_false]; exact ⟨cN, List.mem_of_getElem? Hck.out, by rw [Hq.out]; simp⟩
          rw [h1]; simp)
        go_wp2_with (go_at_call 10; refine (HFc.out _).mono ?_; rintro e w8 ⟨rfl, hb8⟩)
        try go_ret
        exact HRt.out _ Hf.out (H27.out.trans (hb8.mono H27.out.size))
      · go_wp2_with (go_at_call 10; refine (HFc.out _).mono ?_; rintro e w8 ⟨rfl, hb8⟩)
        have H28 := Lib.hid (H27.out.trans (hb8.mono H27.out.size))
        clear z0 z1 z2 z3 z4 z5 z6 z7 zl
        go_loopw [6] (fun i wr => ∃ j : Nat, j ≤ k ∧ i = .int .i64 j ∧ (∀ y ∈ cols.take j, (y.toList == cN.toList) = false) ∧ Below w2.heap.size w2 wr) (fun i _ => k - (intOf i).toNat)
        case atStart => exact ⟨0, Nat.zero_le _, rfl, by simp, H28.out⟩
        case round =>
          obtain ⟨j, hj, rfl, hne', hB9⟩ := hrel
          have Hne' := Lib.hid hne'
          clear hne'
          obtain ⟨z0, z1, z2, z3, z4, z5, z6, z7, zl⟩ := stBox' (HX.out wr hB9)
          by_cases hjk : j < k
          · obtain ⟨b', o', r', y, hA', hbl2, _, hyj, _, hp', hc'⟩ := (Hcl2.out wr hB9).get (k := j) (by omega)
            obtain ⟨b'', o'', r'', y'', hA'', hbl3, _, hyk, _, hp'', hc''⟩ := (Hcl2.out wr hB9).get hlt
            obtain ⟨rfl, _⟩ := hp'
            obtain ⟨rfl, _⟩ := hp''
            simp only [Option.some.injEq, Addr.mk.injEq, and_true] at hA' hA''
            obtain ⟨rfl, rfl⟩ := hA'
            obtain ⟨rfl, rfl⟩ := hA''
            have e2 := Hck.out.symm.trans hyk
            injection e2 with e2
            subst e2
            have hd0 := hc' 0 _ rfl
            have hd1 := hc'' 0 _ rfl
            rw [Nat.mul_one, Nat.add_zero] at hd0 hd1
            have Hyj := Lib.hid hyj
            clear hc' hc'' hyj hyk
            by_cases he : (y.toList == cN.toList) = true
            · have Hf : Hid ((cols.all freeB && decide cols.Nodup) = false) := Lib.hid (by
                have h1 : decide cols.Nodup = false := by
                  rw [decide_eq_false_iff_not]
                  intro hn2
                  have hyx : y = cN := by simpa [bs_eq] using he
                  have a1 := (List.getElem?_eq_some_iff.1 Hyj.out)
                  have a2 := (List.getElem?_eq_some_iff.1 Hck.out)
                  have h3 := (List.getElem_inj (xs := cols) (i := j) (j := k) (h₀ := a1.1) (h₁ := a2.1) hn2).1 (by rw [a1.2, a2.2, hyx])
                  omega
                rw [h1]; simp)
              skip
              go_wp2
              go_quiet (fail)
              go_wp2
              try go_ret
              exact HRt.out _ Hf.out (below_drewN hB9 _)
            · have he : (y.toList == cN.toList) = false := by simpa using he
              have Hnx := Lib.hid (mem_take_succ Hyj.out Hne'.out he)
              go_wp2
              go_quiet (fail)
              go_wp2
              go_roundw
              case rel => exact ⟨j + 1, by omega, by go_num, Hnx.out, below_drewN hB9 _⟩
              case measure => simp [intOf]; omega
          · have Hf1 := Lib.hid (mem_take_succ Hck.out Hfr.out Hq.out)
            have Hn1 : Hid ((cols.take (k + 1)).Nodup) := Lib.hid (by
              rw [take_succ_of' Hck.out, List.nodup_append]
              refine ⟨Hnd.out, by simp, fun a ha b hb e => ?_⟩
              simp at hb
              have hjk' : j = k := by omega
              have h5 := Hne'.out a (by rw [hjk']; exact ha)
              rw [e, hb] at h5
              simp at h5)
            go_wp2
            go_roundw
            case rel => exact ⟨k + 1, by omega, by go_num, Hf1.out, Hn1.out, hB9⟩
            case measure => simp [intOf]; omega
    · have Hcols : Hid (cols.all freeB = true ∧ decide cols.Nodup = true) := Lib.hid (by
        have h1 := Hfr.out
        have h2 := Hnd.out
        rw [List.take_of_length_le (by rw [Hcl.out]; omega)] at h1 h2
        exact ⟨by rw [List.all_eq_true]; exact h1, by simpa using h2⟩)
      go_wp2_with fail
      exact HI.out _ _ _ _ _ _ _ _ _ _ _ _ _ _ _ _ _ _ _ _ _ _ _ _ _ _ _ _ _ _ _ _ _ _ H27.out Hcols.out.1 Hcols.out.2
set_option maxRecDepth 100000 in
set_option maxHeartbeats 40000000 in
theorem blkExprs (F : Nat → Prop) (d : Nat) (exprs : List Ex) (op n : Int) (name src : ByteArray) (Ac Ae Ab Al : Option Addr) (nc cc ne ce nb cb nl cl : Nat) (w w2 w6 : World) {x0 x2 x3 x4 x5 x6 x8 x10 x11 x12 x13 x14 x15 x16 x17 x18 x19 x20 x21 x22 x23 x24 x25 x26 x27 x28 x29 x30 x31 x32 x33 x34 x35 x36 x37 x38 x39 x40 x41 x42 x43 x44 x45 x46 x47 x48 x49 x50 x51 x52 x53 x54 x55 x56 x57 x58 x59 x60 x61 x62 x63 x64 x65 x66 x67 x68 x69 x70 x71 x72 x73 x74 x75 x76 x77 x78 x79 x80 x81 x82 x83 x84 x85 x86 x87 x88 x89 x90 x91 x92 x93 x94 x95 x96 x97 x98 x99 x100 x101 x102 x103 x104 x105 x106 x107 x108 x109 x110 x111 x112 x113 x114 x115 x116 x117 x118 x119 x120 x121 x122 x123 x124 x125 x126 x127 x128 x129 x130 x131 x132 x133 x134 x135 x136 x137 x138 x139 x140 x141 x142 x143 x144 x145 x146 x147 x148 x149 x150 x151 x152 x153 x154 x155 x156 x157 x158 x159 x160 x161 x162 x163 x164 x165 x166 x167 x168 x169 x170 x171 x172 x173 x174 x175 x176 x177 x178 x179 x180 x181 x182 x183 x184 x185 x186 x187 x188 x189 x190 x191 x192 x193 x194 x195 x196 x197 x198 x199 : Value} {I : Act → World → Prop} {R : Ending → World → Prop}
    (hx : IsBlk w2 w.heap.size 52 #[.int .i64 op, .string name, .string src, .int .i64 n, .slice Ac nc cc, .slice Ae ne ce, .slice Ab nb cb, .slice Al nl cl]) (hB : Below w2.heap.size w2 w6) (hel : ExsAt F d w2 Ae ne ce exprs)
    (hRet : ∀ W, exprs.all (builtE d) = false → Below w2.heap.size w2 W → R (.returned (.bool false)) W)
    (hI : ∀ (y2 y9 y180 y181 y182 y183 y184 y185 y186 y187 y188 y189 y190 y191 : Value) (W : World), Below w2.heap.size w2 W → exprs.all (builtE d) = true → I ⟨#[x0, .pointer (some ⟨w.heap.size, 0, none⟩), y2, x3, x4, x5, x6, .int .i64 ne, x8, y9, x10, x11, x12, x13, x14, x15, x16, x17, x18, x19, x20, x21, x22, x23, x24, x25, x26, x27, x28, x29, x30, x31, x32, x33, x34, x35, x36, x37, x38, x39, x40, x41, x42, x43, x44, x45, x46, x47, x48, x49, x50, x51, x52, x53, x54, x55, x56, x57, x58, x59, x60, x61, x62, x63, x64, x65, x66, x67, x68, x69, x70, x71, x72, x73, x74, x75, x76, x77, x78, x79, x80, x81, x82, x83, x84, x85, x86, x87, x88, x89, x90, x91, x92, x93, x94, x95, x96, x97, x98, x99, x100, x101, x102, x103, x104, x105, x106, x107, x108, x109, x110, x111, x112, x113, x114, x115, x116, x117, x118, x119, x120, x121, x122, x123, x124, x125, x126, x127, x128, x129, x130, x131, x132, x133, x134, x135, x136, x137, x138, x139, x140, x141, x142, x143, x144, x145, x146, x147, x148, x149, x150, x151, x152, x153, x154, x155, x156, x157, x158, x159, x160, x161, x162, x163, x164, x165, x166, x167, x168, x169, x170, x171, x172, x173, x174, x175, x176, x177, x178, x179, y180, y181, y182, y183, y184, y185, y186, y187, y188, y189, y190, y191, x192, x193, x194, x195, x196, x197, x198, x199], []⟩ W) :
    Code.wp Try.prog (builtBlock 4) (Exit.then I (bodyPost Try.prog Try.f44 R)) ⟨#[x0, .pointer (some ⟨w.heap.size, 0, none⟩), x2, x3, x4, x5, x6, .int .i64 ne, x8, .int .i64 0, x10, x11, x12, x13, x14, x15, x16, x17, x18, x19, x20, x21, x22, x23, x24, x25, x26, x27, x28, x29, x30, x31, x32, x33, x34, x35, x36, x37, x38, x39, x40, x41, x42, x43, x44, x45, x46, x47, x48, x49, x50, x51, x52, x53, x54, x55, x56, x57, x58, x59, x60, x61, x62, x63, x64, x65, x66, x67, x68, x69, x70, x71, x72, x73, x74, x75, x76, x77, x78, x79, x80, x81, x82, x83, x84, x85, x86, x87, x88, x89, x90, x91, x92, x93, x94, x95, x96, x97, x98, x99, x100, x101, x102, x103, x104, x105, x106, x107, x108, x109, x110, x111, x112, x113, x114, x115, x116, x117, x118, x119, x120, x121, x122, x123, x124, x125, x126, x127, x128, x129, x130, x131, x132, x133, x134, x135, x136, x137, x138, x139, x140, x141, x142, x143, x144, x145, x146, x147, x148, x149, x150, x151, x152, x153, x154, x155, x156, x157, x158, x159, x160, x161, x162, x163, x164, x165, x166, x167, x168, x169, x170, x171, x172, x173, x174, x175, x176, x177, x178, x179, x180, x181, x182, x183, x184, x185, x186, x187, x188, x189, x190, x191, x192, x193, x194, x195, x196, x197, x198, x199], []⟩ w6 := by
  have Hel := Lib.hid (LsAt.len hel)
  have hne := LsAt.n_le hel
  conv => arg 2; whnf
  have HX := Lib.hid (fun W (hW : Below w2.heap.size w2 W) => hx.as_was (hW.block _ hx.lt))
  have Hel2 := Lib.hid (fun W (hW : Below w2.heap.size w2 W) => ExsAt.below hel hW)
  have H27 := Lib.hid hB
  have HI := Lib.hid hI
  have HRt := Lib.hid hRet
  clear hx hB hI hRet hel
  go_wp2_with fail
  go_loopw [9] (fun i wr => ∃ k : Nat, k ≤ ne ∧ i = .int .i64 k ∧ (∀ y ∈ exprs.take k, builtE d y = true) ∧ Below w2.heap.size w2 wr) (fun i _ => ne - (intOf i).toNat)
  case atStart => exact ⟨0, Nat.zero_le _, rfl, by simp, H27.out⟩
  case round =>
    obtain ⟨k2, hk2, rfl, hall, hB⟩ := hrel
    have Hall := Lib.hid hall
    clear hall
    skip
    obtain ⟨z0, z1, z2, z3, z4, z5, z6, z7, zl⟩ := stBox' (HX.out wr hB)
    by_cases hlt2 : k2 < ne
    · cases d with
      | zero =>
        obtain ⟨b3, o3, r3, e3, hA3, hbl3, _, he3, hl3, hp3, hc3⟩ := LsAt.get (Hel2.out wr hB) hlt2
        exact hp3.elim
      | succ d =>
        obtain ⟨b3, o3, x, A3, m3, c3, rfl, hbl3, hx, hd0, hd1, hd2, hd3, hd4, hd5, hpx, _⟩ := ExsAt.get (Hel2.out wr hB) hlt2
        have Hx := Lib.hid hx
        clear hx
        obtain ⟨q, Hq⟩ : ∃ q, Hid (builtE (d + 1) x = q) := ⟨_, rfl⟩
        have hcall := rbuilt_any F (d + 1) x _ wr hpx
        rw [Hq.out] at hcall
        have Hc := Lib.hid hcall
        clear hcall
        cases q
        · go_wp2_with (go_at_call 62; refine Hc.out.mono ?_; rintro y w9 ⟨rfl, hb9⟩)
          try go_ret
          have hno : exprs.all (builtE (d + 1)) = false := by rw [List.all_eq_false]; exact ⟨x, List.mem_of_getElem? Hx.out, by rw [Hq.out]; simp⟩
          exact HRt.out _ hno (hB.trans (hb9.mono hB.size))
        · have Hnx := Lib.hid (mem_take_succ Hx.out Hall.out Hq.out)
          go_wp2_with (go_at_call 62; refine Hc.out.mono ?_; rintro y w9 ⟨rfl, hb9⟩)
          go_roundw
          case rel => exact ⟨k2 + 1, by omega, by go_num, Hnx.out, hB.trans (hb9.mono hB.size)⟩
          case measure => simp [intOf]; omega
    · have Hex : Hid (exprs.all (builtE d) = true) := Lib.hid (by
        have h1 := Hall.out
        rw [List.take_of_length_le (by rw [Hel.out]; omega)] at h1
        rw [List.all_eq_true]; exact h1)
      go_wp2_with fail
      exact HI.out _ _ _ _ _ _ _ _ _ _ _ _ _ _ _ hB Hex.out
end Go.Proofs.Ytgihhkfppnhdpaa
