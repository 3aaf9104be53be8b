/- Parts of this proof, one behind the other: RefHF. -/
import Derived.Test.YtmfcmpnlipnopaaGreatTw37
import Derived.Deep.DeepCutAuto
import Derived.Deep.QuietTactic
import Derived.Deep.RegionHeld3
import Derived.BigQuiet
import Derived.Outline
set_option maxRecDepth 1000000
set_option maxHeartbeats 40000000
namespace Go.Proofs.YtmfcmpnlipnopaaGreat
open Go.RowKit Go.Afx
theorem leafA0 (op n:Int) (name src f:ByteArray) (Ac Ae Ab Al:Option Addr) (nc cc ne ce nb cb nl cl:Nat) (w w2:World)
  (oknm:okS name) (oksr:okS src) (oknf:okS f) (hx2:IsBlk w2 w.heap.size 65 #[.int .i64 op,.string name,.string src,.int .i64 n,.slice Ac nc cc,.slice Ae ne ce,.slice Ab nb cb,.slice Al nl cl]) (j1:inB f 110=hN op) (j2:inB f 115=hS op) (hbn:hN op=false) (hen:noS name=false) :
  SigA op name src f w w2:=by
 unfold SigA
 intros
 rename_i hI
 conv=>arg 2;whnf
 obtain⟨bs,hbs⟩:∃ b,hS op=b:=⟨_,rfl⟩
 obtain⟨es,hes⟩:∃ b,noS src=b:=⟨_,rfl⟩
 obtain⟨fn,hfn⟩:∃ b,freeB name=b:=⟨_,rfl⟩
 obtain⟨fs,hfs⟩:∃ b,freeB src=b:=⟨_,rfl⟩
 have HI:=Lhd hI
 clear hI
 rw[hbn] at j1
 rw[hbs] at j2
 have HN:=Lhd (fun W=>in_at f 110 110 _ oknf rfl j1 W)
 have HS:=Lhd (fun W=>in_at f 115 115 _ oknf rfl j2 W)
 have hF1:=fun W=>freeRef_any name W oknm
 have hF2:=fun W=>freeRef_any src W oksr
 rw[hfn] at hF1
 rw[hfs] at hF2
 have HFn:=Lhd hF1
 have HFs:=Lhd hF2
 have HX:=Lhd (fun W (hW:Below w2.heap.size w2 W)=>hx2.as_was (hW.block _ hx2.lt))
 have HS2:=Lhd (fun W (hW:Below w2.heap.size w2 W)=>And.intro (stBox' (HX.out W hW)).2.1 (stBox' (HX.out W hW)).2.2.1)
 clear j1 j2 oknf hF1 hF2 hx2
 have fname:=str_some hen
 obtain⟨gname,kname⟩:=str_no hen
 have HR:=Lhd (tA_of (name:=name) (src:=src) (op:=op) hbn hbs hen hes hfn hfs)
 clear hbn hbs hen hes hfn hfs
 refine wp_region_held (S:=fun W=>W.cell? ⟨w.heap.size,1,none⟩=some (.string name)∧W.cell? ⟨w.heap.size,2,none⟩=some (.string src)) (by kernel_rfl) ?_
 change wpAnyH _ _ _ _ _ _ _ _ (World.drew _)
 have HSS:=HS2.out _ (Below.refl w2.heap.size w2).drew
 refine tk 0 (.string f) rfl HSS ?_
 go_simp
 refine tk 2 (.pointer (some ⟨w.heap.size,1,none⟩)) rfl HSS ?_
 go_simp
 refine tk 3 (.string name) rfl HSS ?_
 go_simp
 refine tk 4 (.bool true) rfl HSS ?_
 go_simp
 refine wpAnyH_ready (rs:=[1]) (by kernel_rfl) (by simp) ?_
 refine AllReadyH.cons rfl (fun K hK=>?_) AllReadyH.nil
 go_simp
 refine(HN.out _).mono ?_
 rintro e w' ⟨rfl,rfl⟩
 go_simp
 refine hK.out _ _ HSS (fun _=>?_);clear hK K
 refine tk 5 (.bool true) rfl HSS ?_
 go_simp
 refine tk 6 (.bool true) rfl HSS ?_
 go_simp
 refine tu 7 rfl HSS ?_
 go_simp
 refine tu 8 rfl HSS ?_
 go_simp
 refine tu 9 rfl HSS ?_
 go_simp
 refine tu 10 rfl HSS ?_
 go_simp
 refine tu 11 rfl HSS ?_
 go_simp
 refine tu 12 rfl HSS ?_
 go_simp
 refine tk 13 (.bool true) rfl HSS ?_
 go_simp
 refine tk 14 (.bool true) rfl HSS ?_
 go_simp
 refine tu 15 rfl HSS ?_
 go_simp
 refine tu 16 rfl HSS ?_
 go_simp
 refine tu 17 rfl HSS ?_
 go_simp
 refine tu 18 rfl HSS ?_
 go_simp
 refine tu 19 rfl HSS ?_
 go_simp
 refine tu 20 rfl HSS ?_
 go_simp
 refine tu 21 rfl HSS ?_
 go_simp
 refine tu 22 rfl HSS ?_
 go_simp
 refine tk 23 (.bool true) rfl HSS ?_
 go_simp
 refine tk 24 (.bool true) rfl HSS ?_
 go_simp
 refine tu 25 rfl HSS ?_
 go_simp
 refine tu 26 rfl HSS ?_
 go_simp
 refine tu 27 rfl HSS ?_
 go_simp
 refine tu 28 rfl HSS ?_
 go_simp
 refine tu 29 rfl HSS ?_
 go_simp
 refine tu 30 rfl HSS ?_
 go_simp
 refine tu 31 rfl HSS ?_
 go_simp
 refine tu 32 rfl HSS ?_
 go_simp
 refine tk 33 (.bool true) rfl HSS ?_
 go_simp
 refine wpAnyH_done (by kernel_rfl) ?_ _
 exact HI.out _ _ _ _ _ _ _ _ _ _ _ _ _ _ _ _ _ _ _ _ _ _ _ _ _ _ _ _ _ _ _ _ _ _ _ ⟨by rw[HR.out];rfl,(Below.refl w2.heap.size w2).drew⟩
theorem leafA1 (op n:Int) (name src f:ByteArray) (Ac Ae Ab Al:Option Addr) (nc cc ne ce nb cb nl cl:Nat) (w w2:World)
  (oknm:okS name) (oksr:okS src) (oknf:okS f) (hx2:IsBlk w2 w.heap.size 65 #[.int .i64 op,.string name,.string src,.int .i64 n,.slice Ac nc cc,.slice Ae ne ce,.slice Ab nb cb,.slice Al nl cl]) (j1:inB f 110=hN op) (j2:inB f 115=hS op) (hbn:hN op=false) (hbs:hS op=false) (hen:noS name=true) (hes:noS src=false) :
  SigA op name src f w w2:=by
 unfold SigA
 intros
 rename_i hI
 conv=>arg 2;whnf
 obtain⟨fn,hfn⟩:∃ b,freeB name=b:=⟨_,rfl⟩
 obtain⟨fs,hfs⟩:∃ b,freeB src=b:=⟨_,rfl⟩
 have HI:=Lhd hI
 clear hI
 rw[hbn] at j1
 rw[hbs] at j2
 have HN:=Lhd (fun W=>in_at f 110 110 _ oknf rfl j1 W)
 have HS:=Lhd (fun W=>in_at f 115 115 _ oknf rfl j2 W)
 have hF1:=fun W=>freeRef_any name W oknm
 have hF2:=fun W=>freeRef_any src W oksr
 rw[hfn] at hF1
 rw[hfs] at hF2
 have HFn:=Lhd hF1
 have HFs:=Lhd hF2
 have HX:=Lhd (fun W (hW:Below w2.heap.size w2 W)=>hx2.as_was (hW.block _ hx2.lt))
 have HS2:=Lhd (fun W (hW:Below w2.heap.size w2 W)=>And.intro (stBox' (HX.out W hW)).2.1 (stBox' (HX.out W hW)).2.2.1)
 clear j1 j2 oknf hF1 hF2 hx2
 have fname:=str_empty hen
 obtain⟨gname,kname⟩:=str_yes hen
 have fsrc:=str_some hes
 obtain⟨gsrc,ksrc⟩:=str_no hes
 have HR:=Lhd (tA_of (name:=name) (src:=src) (op:=op) hbn hbs hen hes hfn hfs)
 clear hbn hbs hen hes hfn hfs
 refine wp_region_held (S:=fun W=>W.cell? ⟨w.heap.size,1,none⟩=some (.string name)∧W.cell? ⟨w.heap.size,2,none⟩=some (.string src)) (by kernel_rfl) ?_
 change wpAnyH _ _ _ _ _ _ _ _ (World.drew _)
 have HSS:=HS2.out _ (Below.refl w2.heap.size w2).drew
 refine tk 0 (.string f) rfl HSS ?_
 go_simp
 refine tk 2 (.pointer (some ⟨w.heap.size,1,none⟩)) rfl HSS ?_
 go_simp
 refine tk 3 (.string name) rfl HSS ?_
 go_simp
 refine tk 4 (.bool false) rfl HSS ?_
 go_simp
 refine wpAnyH_ready (rs:=[1]) (by kernel_rfl) (by simp) ?_
 refine AllReadyH.cons rfl (fun K hK=>?_) AllReadyH.nil
 go_simp
 refine(HN.out _).mono ?_
 rintro e w' ⟨rfl,rfl⟩
 go_simp
 refine hK.out _ _ HSS (fun _=>?_);clear hK K
 refine tk 5 (.bool false) rfl HSS ?_
 go_simp
 refine tk 6 (.bool false) rfl HSS ?_
 go_simp
 refine tk 7 (.string f) rfl HSS ?_
 go_simp
 refine tk 9 (.pointer (some ⟨w.heap.size,2,none⟩)) rfl HSS ?_
 go_simp
 refine tk 10 (.string src) rfl HSS ?_
 go_simp
 refine tk 11 (.bool true) rfl HSS ?_
 go_simp
 refine wpAnyH_ready (rs:=[8]) (by kernel_rfl) (by simp) ?_
 refine AllReadyH.cons rfl (fun K hK=>?_) AllReadyH.nil
 go_simp
 refine(HS.out _).mono ?_
 rintro e w' ⟨rfl,rfl⟩
 go_simp
 refine hK.out _ _ HSS (fun _=>?_);clear hK K
 refine tk 12 (.bool true) rfl HSS ?_
 go_simp
 refine tk 13 (.bool true) rfl HSS ?_
 go_simp
 refine tk 14 (.bool true) rfl HSS ?_
 go_simp
 refine tu 15 rfl HSS ?_
 go_simp
 refine tu 16 rfl HSS ?_
 go_simp
 refine tu 17 rfl HSS ?_
 go_simp
 refine tu 18 rfl HSS ?_
 go_simp
 refine tu 19 rfl HSS ?_
 go_simp
 refine tu 20 rfl HSS ?_
 go_simp
 refine tu 21 rfl HSS ?_
 go_simp
 refine tu 22 rfl HSS ?_
 go_simp
 refine tk 23 (.bool true) rfl HSS ?_
 go_simp
 refine tk 24 (.bool true) rfl HSS ?_
 go_simp
 refine tu 25 rfl HSS ?_
 go_simp
 refine tu 26 rfl HSS ?_
 go_simp
 refine tu 27 rfl HSS ?_
 go_simp
 refine tu 28 rfl HSS ?_
 go_simp
 refine tu 29 rfl HSS ?_
 go_simp
 refine tu 30 rfl HSS ?_
 go_simp
 refine tu 31 rfl HSS ?_
 go_simp
 refine tu 32 rfl HSS ?_
 go_simp
 refine tk 33 (.bool true) rfl HSS ?_
 go_simp
 refine wpAnyH_done (by kernel_rfl) ?_ _
 exact HI.out _ _ _ _ _ _ _ _ _ _ _ _ _ _ _ _ _ _ _ _ _ _ _ _ _ _ _ _ _ _ _ _ _ _ _ ⟨by rw[HR.out];rfl,(Below.refl w2.heap.size w2).drew⟩
theorem leafA2 (op n:Int) (name src f:ByteArray) (Ac Ae Ab Al:Option Addr) (nc cc ne ce nb cb nl cl:Nat) (w w2:World)
  (oknm:okS name) (oksr:okS src) (oknf:okS f) (hx2:IsBlk w2 w.heap.size 65 #[.int .i64 op,.string name,.string src,.int .i64 n,.slice Ac nc cc,.slice Ae ne ce,.slice Ab nb cb,.slice Al nl cl]) (j1:inB f 110=hN op) (j2:inB f 115=hS op) (hbn:hN op=false) (hbs:hS op=false) (hen:noS name=true) (hes:noS src=true) :
  SigA op name src f w w2:=by
 unfold SigA
 intros
 rename_i hI
 conv=>arg 2;whnf
 obtain⟨fn,hfn⟩:∃ b,freeB name=b:=⟨_,rfl⟩
 obtain⟨fs,hfs⟩:∃ b,freeB src=b:=⟨_,rfl⟩
 have HI:=Lhd hI
 clear hI
 rw[hbn] at j1
 rw[hbs] at j2
 have HN:=Lhd (fun W=>in_at f 110 110 _ oknf rfl j1 W)
 have HS:=Lhd (fun W=>in_at f 115 115 _ oknf rfl j2 W)
 have hF1:=fun W=>freeRef_any name W oknm
 have hF2:=fun W=>freeRef_any src W oksr
 rw[hfn] at hF1
 rw[hfs] at hF2
 have HFn:=Lhd hF1
 have HFs:=Lhd hF2
 have HX:=Lhd (fun W (hW:Below w2.heap.size w2 W)=>hx2.as_was (hW.block _ hx2.lt))
 have HS2:=Lhd (fun W (hW:Below w2.heap.size w2 W)=>And.intro (stBox' (HX.out W hW)).2.1 (stBox' (HX.out W hW)).2.2.1)
 clear j1 j2 oknf hF1 hF2 hx2
 have fname:=str_empty hen
 obtain⟨gname,kname⟩:=str_yes hen
 have fsrc:=str_empty hes
 obtain⟨gsrc,ksrc⟩:=str_yes hes
 have HR:=Lhd (tA_of (name:=name) (src:=src) (op:=op) hbn hbs hen hes hfn hfs)
 clear hbn hbs hen hes hfn hfs
 refine wp_region_held (S:=fun W=>W.cell? ⟨w.heap.size,1,none⟩=some (.string name)∧W.cell? ⟨w.heap.size,2,none⟩=some (.string src)) (by kernel_rfl) ?_
 change wpAnyH _ _ _ _ _ _ _ _ (World.drew _)
 have HSS:=HS2.out _ (Below.refl w2.heap.size w2).drew
 refine tk 0 (.string f) rfl HSS ?_
 go_simp
 refine tk 2 (.pointer (some ⟨w.heap.size,1,none⟩)) rfl HSS ?_
 go_simp
 refine tk 3 (.string name) rfl HSS ?_
 go_simp
 refine tk 4 (.bool false) rfl HSS ?_
 go_simp
 refine wpAnyH_ready (rs:=[1]) (by kernel_rfl) (by simp) ?_
 refine AllReadyH.cons rfl (fun K hK=>?_) AllReadyH.nil
 go_simp
 refine(HN.out _).mono ?_
 rintro e w' ⟨rfl,rfl⟩
 go_simp
 refine hK.out _ _ HSS (fun _=>?_);clear hK K
 refine tk 5 (.bool false) rfl HSS ?_
 go_simp
 refine tk 6 (.bool false) rfl HSS ?_
 go_simp
 refine tk 7 (.string f) rfl HSS ?_
 go_simp
 refine tk 9 (.pointer (some ⟨w.heap.size,2,none⟩)) rfl HSS ?_
 go_simp
 refine tk 10 (.string src) rfl HSS ?_
 go_simp
 refine tk 11 (.bool false) rfl HSS ?_
 go_simp
 refine wpAnyH_ready (rs:=[8]) (by kernel_rfl) (by simp) ?_
 refine AllReadyH.cons rfl (fun K hK=>?_) AllReadyH.nil
 go_simp
 refine(HS.out _).mono ?_
 rintro e w' ⟨rfl,rfl⟩
 go_simp
 refine hK.out _ _ HSS (fun _=>?_);clear hK K
 refine tk 12 (.bool false) rfl HSS ?_
 go_simp
 refine tk 13 (.bool false) rfl HSS ?_
 go_simp
 refine tk 14 (.bool false) rfl HSS ?_
 go_simp
 refine tk 15 (.string f) rfl HSS ?_
 go_simp
 refine wpAnyH_ready (rs:=[16]) (by kernel_rfl) (by simp) ?_
 refine AllReadyH.cons rfl (fun K hK=>?_) AllReadyH.nil
 go_simp
 refine(HN.out _).mono ?_
 rintro e w' ⟨rfl,rfl⟩
 go_simp
 refine hK.out _ _ HSS (fun _=>?_);clear hK K
 refine tk 17 (.bool false) rfl HSS ?_
 go_simp
 refine tu 18 rfl HSS ?_
 go_simp
 refine tu 19 rfl HSS ?_
 go_simp
 refine tu 20 rfl HSS ?_
 go_simp
 refine tu 21 rfl HSS ?_
 go_simp
 refine tk 22 (.bool false) rfl HSS ?_
 go_simp
 refine tk 23 (.bool false) rfl HSS ?_
 go_simp
 refine tk 24 (.bool false) rfl HSS ?_
 go_simp
 refine tk 25 (.string f) rfl HSS ?_
 go_simp
 refine wpAnyH_ready (rs:=[26]) (by kernel_rfl) (by simp) ?_
 refine AllReadyH.cons rfl (fun K hK=>?_) AllReadyH.nil
 go_simp
 refine(HS.out _).mono ?_
 rintro e w' ⟨rfl,rfl⟩
 go_simp
 refine hK.out _ _ HSS (fun _=>?_);clear hK K
 refine tk 27 (.bool false) rfl HSS ?_
 go_simp
 refine tu 28 rfl HSS ?_
 go_simp
 refine tu 29 rfl HSS ?_
 go_simp
 refine tu 30 rfl HSS ?_
 go_simp
 refine tu 31 rfl HSS ?_
 go_simp
 refine tk 32 (.bool false) rfl HSS ?_
 go_simp
 refine tk 33 (.bool false) rfl HSS ?_
 go_simp
 refine wpAnyH_done (by kernel_rfl) ?_ _
 exact HI.out _ _ _ _ _ _ _ _ _ _ _ _ _ _ _ _ _ _ _ _ _ _ _ _ _ _ _ _ _ _ _ _ _ _ _ ⟨by rw[HR.out];rfl,(Below.refl w2.heap.size w2).drew⟩
theorem leafA3 (op n:Int) (name src f:ByteArray) (Ac Ae Ab Al:Option Addr) (nc cc ne ce nb cb nl cl:Nat) (w w2:World)
  (oknm:okS name) (oksr:okS src) (oknf:okS f) (hx2:IsBlk w2 w.heap.size 65 #[.int .i64 op,.string name,.string src,.int .i64 n,.slice Ac nc cc,.slice Ae ne ce,.slice Ab nb cb,.slice Al nl cl]) (j1:inB f 110=hN op) (j2:inB f 115=hS op) (hbn:hN op=false) (hbs:hS op=true) (hen:noS name=true) (hes:noS src=false) (hfs:freeB src=false) :
  SigA op name src f w w2:=by
 unfold SigA
 intros
 rename_i hI
 conv=>arg 2;whnf
 obtain⟨fn,hfn⟩:∃ b,freeB name=b:=⟨_,rfl⟩
 have HI:=Lhd hI
 clear hI
 rw[hbn] at j1
 rw[hbs] at j2
 have HN:=Lhd (fun W=>in_at f 110 110 _ oknf rfl j1 W)
 have HS:=Lhd (fun W=>in_at f 115 115 _ oknf rfl j2 W)
 have hF1:=fun W=>freeRef_any name W oknm
 have hF2:=fun W=>freeRef_any src W oksr
 rw[hfn] at hF1
 rw[hfs] at hF2
 have HFn:=Lhd hF1
 have HFs:=Lhd hF2
 have HX:=Lhd (fun W (hW:Below w2.heap.size w2 W)=>hx2.as_was (hW.block _ hx2.lt))
 have HS2:=Lhd (fun W (hW:Below w2.heap.size w2 W)=>And.intro (stBox' (HX.out W hW)).2.1 (stBox' (HX.out W hW)).2.2.1)
 clear j1 j2 oknf hF1 hF2 hx2
 have fname:=str_empty hen
 obtain⟨gname,kname⟩:=str_yes hen
 have fsrc:=str_some hes
 obtain⟨gsrc,ksrc⟩:=str_no hes
 have HR:=Lhd (tA_of (name:=name) (src:=src) (op:=op) hbn hbs hen hes hfn hfs)
 clear hbn hbs hen hes hfn hfs
 refine wp_region_held (S:=fun W=>W.cell? ⟨w.heap.size,1,none⟩=some (.string name)∧W.cell? ⟨w.heap.size,2,none⟩=some (.string src)) (by kernel_rfl) ?_
 change wpAnyH _ _ _ _ _ _ _ _ (World.drew _)
 have HSS:=HS2.out _ (Below.refl w2.heap.size w2).drew
 refine tk 0 (.string f) rfl HSS ?_
 go_simp
 refine tk 2 (.pointer (some ⟨w.heap.size,1,none⟩)) rfl HSS ?_
 go_simp
 refine tk 3 (.string name) rfl HSS ?_
 go_simp
 refine tk 4 (.bool false) rfl HSS ?_
 go_simp
 refine wpAnyH_ready (rs:=[1]) (by kernel_rfl) (by simp) ?_
 refine AllReadyH.cons rfl (fun K hK=>?_) AllReadyH.nil
 go_simp
 refine(HN.out _).mono ?_
 rintro e w' ⟨rfl,rfl⟩
 go_simp
 refine hK.out _ _ HSS (fun _=>?_);clear hK K
 refine tk 5 (.bool false) rfl HSS ?_
 go_simp
 refine tk 6 (.bool false) rfl HSS ?_
 go_simp
 refine tk 7 (.string f) rfl HSS ?_
 go_simp
 refine tk 9 (.pointer (some ⟨w.heap.size,2,none⟩)) rfl HSS ?_
 go_simp
 refine tk 10 (.string src) rfl HSS ?_
 go_simp
 refine tk 11 (.bool true) rfl HSS ?_
 go_simp
 refine wpAnyH_ready (rs:=[8]) (by kernel_rfl) (by simp) ?_
 refine AllReadyH.cons rfl (fun K hK=>?_) AllReadyH.nil
 go_simp
 refine(HS.out _).mono ?_
 rintro e w' ⟨rfl,rfl⟩
 go_simp
 refine hK.out _ _ HSS (fun _=>?_);clear hK K
 refine tk 12 (.bool false) rfl HSS ?_
 go_simp
 refine tk 13 (.bool false) rfl HSS ?_
 go_simp
 refine tk 14 (.bool false) rfl HSS ?_
 go_simp
 refine tk 15 (.string f) rfl HSS ?_
 go_simp
 refine wpAnyH_ready (rs:=[16]) (by kernel_rfl) (by simp) ?_
 refine AllReadyH.cons rfl (fun K hK=>?_) AllReadyH.nil
 go_simp
 refine(HN.out _).mono ?_
 rintro e w' ⟨rfl,rfl⟩
 go_simp
 refine hK.out _ _ HSS (fun _=>?_);clear hK K
 refine tk 17 (.bool false) rfl HSS ?_
 go_simp
 refine tu 18 rfl HSS ?_
 go_simp
 refine tu 19 rfl HSS ?_
 go_simp
 refine tu 20 rfl HSS ?_
 go_simp
 refine tu 21 rfl HSS ?_
 go_simp
 refine tk 22 (.bool false) rfl HSS ?_
 go_simp
 refine tk 23 (.bool false) rfl HSS ?_
 go_simp
 refine tk 24 (.bool false) rfl HSS ?_
 go_simp
 refine tk 25 (.string f) rfl HSS ?_
 go_simp
 refine wpAnyH_ready (rs:=[26]) (by kernel_rfl) (by simp) ?_
 refine AllReadyH.cons rfl (fun K hK=>?_) AllReadyH.nil
 go_simp
 refine(HS.out _).mono ?_
 rintro e w' ⟨rfl,rfl⟩
 go_simp
 refine hK.out _ _ HSS (fun _=>?_);clear hK K
 refine tk 27 (.bool true) rfl HSS ?_
 go_simp
 refine tk 28 (.pointer (some ⟨w.heap.size,2,none⟩)) rfl HSS ?_
 go_simp
 refine tk 29 (.string src) rfl HSS ?_
 go_simp
 refine wpAnyH_ready (rs:=[30]) (by kernel_rfl) (by simp) ?_
 refine AllReadyH.cons rfl (fun K hK=>?_) AllReadyH.nil
 go_simp
 refine(HFs.out _).mono ?_
 rintro e v1 ⟨rfl,hb1⟩
 have hB1:Below w2.heap.size w2 v1:=((Below.refl w2.heap.size w2).drew).trans (hb1.mono ((Below.refl w2.heap.size w2).drew).size)
 have HSS:=HS2.out v1 hB1
 go_simp
 refine hK.out _ _ HSS (fun _=>?_);clear hK K
 refine tk 31 (.bool true) rfl HSS ?_
 go_simp
 refine tk 32 (.bool true) rfl HSS ?_
 go_simp
 refine tk 33 (.bool true) rfl HSS ?_
 go_simp
 refine wpAnyH_done (by kernel_rfl) ?_ _
 exact HI.out _ _ _ _ _ _ _ _ _ _ _ _ _ _ _ _ _ _ _ _ _ _ _ _ _ _ _ _ _ _ _ _ _ _ _ ⟨by rw[HR.out];rfl,hB1⟩
theorem leafA4 (op n:Int) (name src f:ByteArray) (Ac Ae Ab Al:Option Addr) (nc cc ne ce nb cb nl cl:Nat) (w w2:World)
  (oknm:okS name) (oksr:okS src) (oknf:okS f) (hx2:IsBlk w2 w.heap.size 65 #[.int .i64 op,.string name,.string src,.int .i64 n,.slice Ac nc cc,.slice Ae ne ce,.slice Ab nb cb,.slice Al nl cl]) (j1:inB f 110=hN op) (j2:inB f 115=hS op) (hbn:hN op=false) (hbs:hS op=true) (hen:noS name=true) (hes:noS src=false) (hfs:freeB src=true) :
  SigA op name src f w w2:=by
 unfold SigA
 intros
 rename_i hI
 conv=>arg 2;whnf
 obtain⟨fn,hfn⟩:∃ b,freeB name=b:=⟨_,rfl⟩
 have HI:=Lhd hI
 clear hI
 rw[hbn] at j1
 rw[hbs] at j2
 have HN:=Lhd (fun W=>in_at f 110 110 _ oknf rfl j1 W)
 have HS:=Lhd (fun W=>in_at f 115 115 _ oknf rfl j2 W)
 have hF1:=fun W=>freeRef_any name W oknm
 have hF2:=fun W=>freeRef_any src W oksr
 rw[hfn] at hF1
 rw[hfs] at hF2
 have HFn:=Lhd hF1
 have HFs:=Lhd hF2
 have HX:=Lhd (fun W (hW:Below w2.heap.size w2 W)=>hx2.as_was (hW.block _ hx2.lt))
 have HS2:=Lhd (fun W (hW:Below w2.heap.size w2 W)=>And.intro (stBox' (HX.out W hW)).2.1 (stBox' (HX.out W hW)).2.2.1)
 clear j1 j2 oknf hF1 hF2 hx2
 have fname:=str_empty hen
 obtain⟨gname,kname⟩:=str_yes hen
 have fsrc:=str_some hes
 obtain⟨gsrc,ksrc⟩:=str_no hes
 have HR:=Lhd (tA_of (name:=name) (src:=src) (op:=op) hbn hbs hen hes hfn hfs)
 clear hbn hbs hen hes hfn hfs
 refine wp_region_held (S:=fun W=>W.cell? ⟨w.heap.size,1,none⟩=some (.string name)∧W.cell? ⟨w.heap.size,2,none⟩=some (.string src)) (by kernel_rfl) ?_
 change wpAnyH _ _ _ _ _ _ _ _ (World.drew _)
 have HSS:=HS2.out _ (Below.refl w2.heap.size w2).drew
 refine tk 0 (.string f) rfl HSS ?_
 go_simp
 refine tk 2 (.pointer (some ⟨w.heap.size,1,none⟩)) rfl HSS ?_
 go_simp
 refine tk 3 (.string name) rfl HSS ?_
 go_simp
 refine tk 4 (.bool false) rfl HSS ?_
 go_simp
 refine wpAnyH_ready (rs:=[1]) (by kernel_rfl) (by simp) ?_
 refine AllReadyH.cons rfl (fun K hK=>?_) AllReadyH.nil
 go_simp
 refine(HN.out _).mono ?_
 rintro e w' ⟨rfl,rfl⟩
 go_simp
 refine hK.out _ _ HSS (fun _=>?_);clear hK K
 refine tk 5 (.bool false) rfl HSS ?_
 go_simp
 refine tk 6 (.bool false) rfl HSS ?_
 go_simp
 refine tk 7 (.string f) rfl HSS ?_
 go_simp
 refine tk 9 (.pointer (some ⟨w.heap.size,2,none⟩)) rfl HSS ?_
 go_simp
 refine tk 10 (.string src) rfl HSS ?_
 go_simp
 refine tk 11 (.bool true) rfl HSS ?_
 go_simp
 refine wpAnyH_ready (rs:=[8]) (by kernel_rfl) (by simp) ?_
 refine AllReadyH.cons rfl (fun K hK=>?_) AllReadyH.nil
 go_simp
 refine(HS.out _).mono ?_
 rintro e w' ⟨rfl,rfl⟩
 go_simp
 refine hK.out _ _ HSS (fun _=>?_);clear hK K
 refine tk 12 (.bool false) rfl HSS ?_
 go_simp
 refine tk 13 (.bool false) rfl HSS ?_
 go_simp
 refine tk 14 (.bool false) rfl HSS ?_
 go_simp
 refine tk 15 (.string f) rfl HSS ?_
 go_simp
 refine wpAnyH_ready (rs:=[16]) (by kernel_rfl) (by simp) ?_
 refine AllReadyH.cons rfl (fun K hK=>?_) AllReadyH.nil
 go_simp
 refine(HN.out _).mono ?_
 rintro e w' ⟨rfl,rfl⟩
 go_simp
 refine hK.out _ _ HSS (fun _=>?_);clear hK K
 refine tk 17 (.bool false) rfl HSS ?_
 go_simp
 refine tu 18 rfl HSS ?_
 go_simp
 refine tu 19 rfl HSS ?_
 go_simp
 refine tu 20 rfl HSS ?_
 go_simp
 refine tu 21 rfl HSS ?_
 go_simp
 refine tk 22 (.bool false) rfl HSS ?_
 go_simp
 refine tk 23 (.bool false) rfl HSS ?_
 go_simp
 refine tk 24 (.bool false) rfl HSS ?_
 go_simp
 refine tk 25 (.string f) rfl HSS ?_
 go_simp
 refine wpAnyH_ready (rs:=[26]) (by kernel_rfl) (by simp) ?_
 refine AllReadyH.cons rfl (fun K hK=>?_) AllReadyH.nil
 go_simp
 refine(HS.out _).mono ?_
 rintro e w' ⟨rfl,rfl⟩
 go_simp
 refine hK.out _ _ HSS (fun _=>?_);clear hK K
 refine tk 27 (.bool true) rfl HSS ?_
 go_simp
 refine tk 28 (.pointer (some ⟨w.heap.size,2,none⟩)) rfl HSS ?_
 go_simp
 refine tk 29 (.string src) rfl HSS ?_
 go_simp
 refine wpAnyH_ready (rs:=[30]) (by kernel_rfl) (by simp) ?_
 refine AllReadyH.cons rfl (fun K hK=>?_) AllReadyH.nil
 go_simp
 refine(HFs.out _).mono ?_
 rintro e v1 ⟨rfl,hb1⟩
 have hB1:Below w2.heap.size w2 v1:=((Below.refl w2.heap.size w2).drew).trans (hb1.mono ((Below.refl w2.heap.size w2).drew).size)
 have HSS:=HS2.out v1 hB1
 go_simp
 refine hK.out _ _ HSS (fun _=>?_);clear hK K
 refine tk 31 (.bool false) rfl HSS ?_
 go_simp
 refine tk 32 (.bool false) rfl HSS ?_
 go_simp
 refine tk 33 (.bool false) rfl HSS ?_
 go_simp
 refine wpAnyH_done (by kernel_rfl) ?_ _
 exact HI.out _ _ _ _ _ _ _ _ _ _ _ _ _ _ _ _ _ _ _ _ _ _ _ _ _ _ _ _ _ _ _ _ _ _ _ ⟨by rw[HR.out];rfl,hB1⟩
theorem leafA5 (op n:Int) (name src f:ByteArray) (Ac Ae Ab Al:Option Addr) (nc cc ne ce nb cb nl cl:Nat) (w w2:World)
  (oknm:okS name) (oksr:okS src) (oknf:okS f) (hx2:IsBlk w2 w.heap.size 65 #[.int .i64 op,.string name,.string src,.int .i64 n,.slice Ac nc cc,.slice Ae ne ce,.slice Ab nb cb,.slice Al nl cl]) (j1:inB f 110=hN op) (j2:inB f 115=hS op) (hbn:hN op=false) (hbs:hS op=true) (hen:noS name=true) (hes:noS src=true) :
  SigA op name src f w w2:=by
 unfold SigA
 intros
 rename_i hI
 conv=>arg 2;whnf
 obtain⟨fn,hfn⟩:∃ b,freeB name=b:=⟨_,rfl⟩
 obtain⟨fs,hfs⟩:∃ b,freeB src=b:=⟨_,rfl⟩
 have HI:=Lhd hI
 clear hI
 rw[hbn] at j1
 rw[hbs] at j2
 have HN:=Lhd (fun W=>in_at f 110 110 _ oknf rfl j1 W)
 have HS:=Lhd (fun W=>in_at f 115 115 _ oknf rfl j2 W)
 have hF1:=fun W=>freeRef_any name W oknm
 have hF2:=fun W=>freeRef_any src W oksr
 rw[hfn] at hF1
 rw[hfs] at hF2
 have HFn:=Lhd hF1
 have HFs:=Lhd hF2
 have HX:=Lhd (fun W (hW:Below w2.heap.size w2 W)=>hx2.as_was (hW.block _ hx2.lt))
 have HS2:=Lhd (fun W (hW:Below w2.heap.size w2 W)=>And.intro (stBox' (HX.out W hW)).2.1 (stBox' (HX.out W hW)).2.2.1)
 clear j1 j2 oknf hF1 hF2 hx2
 have fname:=str_empty hen
 obtain⟨gname,kname⟩:=str_yes hen
 have fsrc:=str_empty hes
 obtain⟨gsrc,ksrc⟩:=str_yes hes
 have HR:=Lhd (tA_of (name:=name) (src:=src) (op:=op) hbn hbs hen hes hfn hfs)
 clear hbn hbs hen hes hfn hfs
 refine wp_region_held (S:=fun W=>W.cell? ⟨w.heap.size,1,none⟩=some (.string name)∧W.cell? ⟨w.heap.size,2,none⟩=some (.string src)) (by kernel_rfl) ?_
 change wpAnyH _ _ _ _ _ _ _ _ (World.drew _)
 have HSS:=HS2.out _ (Below.refl w2.heap.size w2).drew
 refine tk 0 (.string f) rfl HSS ?_
 go_simp
 refine tk 2 (.pointer (some ⟨w.heap.size,1,none⟩)) rfl HSS ?_
 go_simp
 refine tk 3 (.string name) rfl HSS ?_
 go_simp
 refine tk 4 (.bool false) rfl HSS ?_
 go_simp
 refine wpAnyH_ready (rs:=[1]) (by kernel_rfl) (by simp) ?_
 refine AllReadyH.cons rfl (fun K hK=>?_) AllReadyH.nil
 go_simp
 refine(HN.out _).mono ?_
 rintro e w' ⟨rfl,rfl⟩
 go_simp
 refine hK.out _ _ HSS (fun _=>?_);clear hK K
 refine tk 5 (.bool false) rfl HSS ?_
 go_simp
 refine tk 6 (.bool false) rfl HSS ?_
 go_simp
 refine tk 7 (.string f) rfl HSS ?_
 go_simp
 refine tk 9 (.pointer (some ⟨w.heap.size,2,none⟩)) rfl HSS ?_
 go_simp
 refine tk 10 (.string src) rfl HSS ?_
 go_simp
 refine tk 11 (.bool false) rfl HSS ?_
 go_simp
 refine wpAnyH_ready (rs:=[8]) (by kernel_rfl) (by simp) ?_
 refine AllReadyH.cons rfl (fun K hK=>?_) AllReadyH.nil
 go_simp
 refine(HS.out _).mono ?_
 rintro e w' ⟨rfl,rfl⟩
 go_simp
 refine hK.out _ _ HSS (fun _=>?_);clear hK K
 refine tk 12 (.bool true) rfl HSS ?_
 go_simp
 refine tk 13 (.bool true) rfl HSS ?_
 go_simp
 refine tk 14 (.bool true) rfl HSS ?_
 go_simp
 refine tu 15 rfl HSS ?_
 go_simp
 refine tu 16 rfl HSS ?_
 go_simp
 refine tu 17 rfl HSS ?_
 go_simp
 refine tu 18 rfl HSS ?_
 go_simp
 refine tu 19 rfl HSS ?_
 go_simp
 refine tu 20 rfl HSS ?_
 go_simp
 refine tu 21 rfl HSS ?_
 go_simp
 refine tu 22 rfl HSS ?_
 go_simp
 refine tk 23 (.bool true) rfl HSS ?_
 go_simp
 refine tk 24 (.bool true) rfl HSS ?_
 go_simp
 refine tu 25 rfl HSS ?_
 go_simp
 refine tu 26 rfl HSS ?_
 go_simp
 refine tu 27 rfl HSS ?_
 go_simp
 refine tu 28 rfl HSS ?_
 go_simp
 refine tu 29 rfl HSS ?_
 go_simp
 refine tu 30 rfl HSS ?_
 go_simp
 refine tu 31 rfl HSS ?_
 go_simp
 refine tu 32 rfl HSS ?_
 go_simp
 refine tk 33 (.bool true) rfl HSS ?_
 go_simp
 refine wpAnyH_done (by kernel_rfl) ?_ _
 exact HI.out _ _ _ _ _ _ _ _ _ _ _ _ _ _ _ _ _ _ _ _ _ _ _ _ _ _ _ _ _ _ _ _ _ _ _ ⟨by rw[HR.out];rfl,(Below.refl w2.heap.size w2).drew⟩
theorem leafA6 (op n:Int) (name src f:ByteArray) (Ac Ae Ab Al:Option Addr) (nc cc ne ce nb cb nl cl:Nat) (w w2:World)
  (oknm:okS name) (oksr:okS src) (oknf:okS f) (hx2:IsBlk w2 w.heap.size 65 #[.int .i64 op,.string name,.string src,.int .i64 n,.slice Ac nc cc,.slice Ae ne ce,.slice Ab nb cb,.slice Al nl cl]) (j1:inB f 110=hN op) (j2:inB f 115=hS op) (hbn:hN op=true) (hbs:hS op=false) (hen:noS name=false) (hes:noS src=false) :
  SigA op name src f w w2:=by
 unfold SigA
 intros
 rename_i hI
 conv=>arg 2;whnf
 obtain⟨fn,hfn⟩:∃ b,freeB name=b:=⟨_,rfl⟩
 obtain⟨fs,hfs⟩:∃ b,freeB src=b:=⟨_,rfl⟩
 have HI:=Lhd hI
 clear hI
 rw[hbn] at j1
 rw[hbs] at j2
 have HN:=Lhd (fun W=>in_at f 110 110 _ oknf rfl j1 W)
 have HS:=Lhd (fun W=>in_at f 115 115 _ oknf rfl j2 W)
 have hF1:=fun W=>freeRef_any name W oknm
 have hF2:=fun W=>freeRef_any src W oksr
 rw[hfn] at hF1
 rw[hfs] at hF2
 have HFn:=Lhd hF1
 have HFs:=Lhd hF2
 have HX:=Lhd (fun W (hW:Below w2.heap.size w2 W)=>hx2.as_was (hW.block _ hx2.lt))
 have HS2:=Lhd (fun W (hW:Below w2.heap.size w2 W)=>And.intro (stBox' (HX.out W hW)).2.1 (stBox' (HX.out W hW)).2.2.1)
 clear j1 j2 oknf hF1 hF2 hx2
 have fname:=str_some hen
 obtain⟨gname,kname⟩:=str_no hen
 have fsrc:=str_some hes
 obtain⟨gsrc,ksrc⟩:=str_no hes
 have HR:=Lhd (tA_of (name:=name) (src:=src) (op:=op) hbn hbs hen hes hfn hfs)
 clear hbn hbs hen hes hfn hfs
 refine wp_region_held (S:=fun W=>W.cell? ⟨w.heap.size,1,none⟩=some (.string name)∧W.cell? ⟨w.heap.size,2,none⟩=some (.string src)) (by kernel_rfl) ?_
 change wpAnyH _ _ _ _ _ _ _ _ (World.drew _)
 have HSS:=HS2.out _ (Below.refl w2.heap.size w2).drew
 refine tk 0 (.string f) rfl HSS ?_
 go_simp
 refine tk 2 (.pointer (some ⟨w.heap.size,1,none⟩)) rfl HSS ?_
 go_simp
 refine tk 3 (.string name) rfl HSS ?_
 go_simp
 refine tk 4 (.bool true) rfl HSS ?_
 go_simp
 refine wpAnyH_ready (rs:=[1]) (by kernel_rfl) (by simp) ?_
 refine AllReadyH.cons rfl (fun K hK=>?_) AllReadyH.nil
 go_simp
 refine(HN.out _).mono ?_
 rintro e w' ⟨rfl,rfl⟩
 go_simp
 refine hK.out _ _ HSS (fun _=>?_);clear hK K
 refine tk 5 (.bool false) rfl HSS ?_
 go_simp
 refine tk 6 (.bool false) rfl HSS ?_
 go_simp
 refine tk 7 (.string f) rfl HSS ?_
 go_simp
 refine tk 9 (.pointer (some ⟨w.heap.size,2,none⟩)) rfl HSS ?_
 go_simp
 refine tk 10 (.string src) rfl HSS ?_
 go_simp
 refine tk 11 (.bool true) rfl HSS ?_
 go_simp
 refine wpAnyH_ready (rs:=[8]) (by kernel_rfl) (by simp) ?_
 refine AllReadyH.cons rfl (fun K hK=>?_) AllReadyH.nil
 go_simp
 refine(HS.out _).mono ?_
 rintro e w' ⟨rfl,rfl⟩
 go_simp
 refine hK.out _ _ HSS (fun _=>?_);clear hK K
 refine tk 12 (.bool true) rfl HSS ?_
 go_simp
 refine tk 13 (.bool true) rfl HSS ?_
 go_simp
 refine tk 14 (.bool true) rfl HSS ?_
 go_simp
 refine tu 15 rfl HSS ?_
 go_simp
 refine tu 16 rfl HSS ?_
 go_simp
 refine tu 17 rfl HSS ?_
 go_simp
 refine tu 18 rfl HSS ?_
 go_simp
 refine tu 19 rfl HSS ?_
 go_simp
 refine tu 20 rfl HSS ?_
 go_simp
 refine tu 21 rfl HSS ?_
 go_simp
 refine tu 22 rfl HSS ?_
 go_simp
 refine tk 23 (.bool true) rfl HSS ?_
 go_simp
 refine tk 24 (.bool true) rfl HSS ?_
 go_simp
 refine tu 25 rfl HSS ?_
 go_simp
 refine tu 26 rfl HSS ?_
 go_simp
 refine tu 27 rfl HSS ?_
 go_simp
 refine tu 28 rfl HSS ?_
 go_simp
 refine tu 29 rfl HSS ?_
 go_simp
 refine tu 30 rfl HSS ?_
 go_simp
 refine tu 31 rfl HSS ?_
 go_simp
 refine tu 32 rfl HSS ?_
 go_simp
 refine tk 33 (.bool true) rfl HSS ?_
 go_simp
 refine wpAnyH_done (by kernel_rfl) ?_ _
 exact HI.out _ _ _ _ _ _ _ _ _ _ _ _ _ _ _ _ _ _ _ _ _ _ _ _ _ _ _ _ _ _ _ _ _ _ _ ⟨by rw[HR.out];rfl,(Below.refl w2.heap.size w2).drew⟩
end Go.Proofs.YtmfcmpnlipnopaaGreat
