/- Parts of this proof, one behind the other: RefHE, RefHA. -/
import Derived.Test.YtgihhkfppnhdpaaSp25
import Derived.Deep.DeepCutAuto
import Derived.Deep.CutBlock
import Derived.Deep.QuietTactic
import Derived.BigQuiet
import Derived.Outline
import Derived.Test.YtgihhkfppnhdpaaSp24
namespace Go.Proofs.Ytgihhkfppnhdpaa
open Go.RowKit Go.Afx

def findFrom (n : Nat) : Code → Option Code
  | .seq a b => if startsAt n a then some (.seq a b) else match findFrom n a with
    | some c => some c
    | none => findFrom n b
  | .loop c => findFrom n c
  | .block _ c => findFrom n c
  | .scope c => findFrom n c
  | .cond _ a b => match findFrom n a with
    | some c => some c
    | none => findFrom n b
  | _ => none
noncomputable def builtFrom (n : Nat) : Code := ((Try.f44.body.bind (findFrom n)).getD .skip)
set_option maxRecDepth 100000 in
set_option maxHeartbeats 40000000 in
theorem built_rest (F : Nat → Prop) (d : Nat) (ih : RBuiltS F d) (op n : Int) (name src : ByteArray) (cols : List ByteArray) (exprs : List Ex) (body els : List St) (Ac Ae Ab Al : Option Addr) (nc cc ne ce nb cb nl cl : Nat) (w w2 w6 : World) {x0 x2 x3 x4 x5 x6 x7 x8 x9 x10 x11 x12 x13 x14 x15 x16 x17 x18 x19 x20 x21 x22 x23 x24 x25 x26 x27 x28 x29 x30 x31 x32 x33 x34 x35 x36 x37 x38 x39 x40 x41 x42 x43 x44 x45 x46 x47 x48 x49 x50 x51 x52 x53 x54 x55 x56 x57 x58 x59 x60 x61 x62 x63 x64 x65 x66 x67 x68 x69 x70 x71 x72 x73 x74 x75 x76 x77 x78 x79 x80 x81 x82 x83 x84 x85 x86 x87 x88 x89 x90 x91 x92 x93 x94 x95 x96 x97 x98 x99 x100 x101 x102 x103 x104 x105 x106 x107 x108 x109 x110 x111 x112 x113 x114 x115 x116 x117 x118 x119 x120 x121 x122 x123 x124 x125 x126 x127 x128 x129 x130 x131 x132 x133 x134 x135 x136 x137 x138 x139 x140 x141 x142 x143 x144 x145 x146 x147 x148 x149 x150 x151 x152 x153 x154 x155 x156 x157 x158 x159 x160 x161 x162 x163 x164 x165 x166 x167 x168 x169 x170 x171 x172 x173 x174 x175 x176 x177 x178 x179 x180 x181 x182 x183 x184 x185 x186 x187 x188 x189 x190 x191 x192 x193 x194 x195 x196 x197 x198 x199 : Value}
    (hb2 : Below w.heap.size w w2) (hx : IsBlk w2 w.heap.size 52 #[.int .i64 op, .string name, .string src, .int .i64 n, .slice Ac nc cc, .slice Ae ne ce, .slice Ab nb cb, .slice Al nl cl]) (hB : Below w2.heap.size w2 w6) (hcl : LsAt F w2 1 SRow Ac nc cc cols) (hel : ExsAt F d w2 Ae ne ce exprs) (hbl : StsAt F d w2 Ab nb cb body) (hll : StsAt F d w2 Al nl cl els)
    (hta : tA op name src = false) (htb : tB op n nc nb nl = false) (hlo : 1 ≤ op) (hhi : op ≤ 10) :
    Code.wp Try.prog (builtFrom 9) (bodyPost Try.prog Try.f44 fun e w' => e = .returned (.bool (refS op name src n cols exprs.length body.length els.length && exprs.all (builtE d) && body.all (builtS d) && els.all (builtS d))) ∧ Below w.heap.size w w') ⟨#[x0, .pointer (some ⟨w.heap.size, 0, none⟩), x2, x3, x4, x5, x6, x7, x8, x9, x10, x11, x12, x13, x14, x15, x16, x17, x18, x19, x20, x21, x22, x23, x24, x25, x26, x27, x28, x29, x30, x31, x32, x33, x34, x35, x36, x37, x38, x39, x40, x41, x42, x43, x44, x45, x46, x47, x48, x49, x50, x51, x52, x53, x54, x55, x56, x57, x58, x59, x60, x61, x62, x63, x64, x65, x66, x67, x68, x69, x70, x71, x72, x73, x74, x75, x76, x77, x78, x79, x80, x81, x82, x83, x84, x85, x86, x87, x88, x89, x90, x91, x92, x93, x94, x95, x96, x97, x98, x99, x100, x101, x102, x103, x104, x105, x106, x107, x108, x109, x110, x111, x112, x113, x114, x115, x116, x117, x118, x119, x120, x121, x122, x123, x124, x125, x126, x127, x128, x129, x130, x131, x132, x133, x134, x135, x136, x137, x138, x139, x140, x141, x142, x143, x144, x145, x146, x147, x148, x149, x150, x151, x152, x153, x154, x155, x156, x157, x158, x159, x160, x161, x162, x163, x164, x165, x166, x167, x168, x169, x170, x171, x172, x173, x174, x175, x176, x177, x178, x179, x180, x181, x182, x183, x184, x185, x186, x187, x188, x189, x190, x191, x192, x193, x194, x195, x196, x197, x198, x199], []⟩ w6 := by
  have hnc := LsAt.n_le hcl
  have hne := LsAt.n_le hel
  have hnb := LsAt.n_le hbl
  have hnl := LsAt.n_le hll
  have Hcl := Lib.hid (LsAt.len hcl)
  have Hel := Lib.hid (LsAt.len hel)
  have Hbl := Lib.hid (LsAt.len hbl)
  have Hll := Lib.hid (LsAt.len hll)
  have HX := Lib.hid (fun W (hW : Below w2.heap.size w2 W) => hx.as_was (hW.block _ hx.lt))
  have Hcl2 := Lib.hid (fun W (hW : Below w2.heap.size w2 W) => hcl.below hW)
  have Hel2 := Lib.hid (fun W (hW : Below w2.heap.size w2 W) => ExsAt.below hel hW)
  have Hbl2 := Lib.hid (fun W (hW : Below w2.heap.size w2 W) => StsAt.below hbl hW)
  have Hll2 := Lib.hid (fun W (hW : Below w2.heap.size w2 W) => StsAt.below hll hW)
  have Hb2 := Lib.hid hb2
  have H26 := Lib.hid hB
  have Hta := Lib.hid hta
  have Htb := Lib.hid htb
  have Hop := Lib.hid (And.intro hlo hhi)
  clear hcl hel hbl hll hx hb2 hB hta htb hlo hhi
  conv => arg 2; whnf
  have hnc8 : nc ≤ 8 := by
    have h := Htb.out
    unfold tB at h
    simp at h
    omega
  obtain ⟨z0, z1, z2, z3, z4, z5, z6, z7, zl⟩ := stBox' (HX.out w6 H26.out)
  go_upto_block 0 with (fail)
  refine Code.wp_mono (fun _ _ _ h => h) (blkCols F cols op n name src Ac Ae Ab Al nc cc ne ce nb cb nl cl w w2 w6 (HX.out _ (Below.refl _ _)) H26.out (Hcl2.out _ (Below.refl _ _)) hnc8 ?_ ?_)
  · intro W hno hbW
    exact ⟨ret_bool (by unfold refS; cases h1 : cols.all freeB <;> cases h2 : decide cols.Nodup <;> simp_all), Hb2.out.trans (hbW.mono Hb2.out.size)⟩
  · intro y2 y5 y6 y113 y114 y115 y116 y117 y118 y119 y120 y121 y122 y123 y124 y125 y126 y127 y128 y129 y130 y131 y132 y133 y134 y135 y136 y137 y138 y139 y140 y141 y142 w7 hbW hc1 hc2
    have H27 := Lib.hid hbW
    have Hcols := Lib.hid (And.intro hc1 hc2)
    have H07 := Lib.hid (Hb2.out.trans (hbW.mono Hb2.out.size))
    obtain ⟨z0, z1, z2, z3, z4, z5, z6, z7, zl⟩ := stBox' (HX.out w7 hbW)
    clear hbW hc1 hc2
    go_step
    go_upto_region 20 with (fail)
    go_cut [8] (fun u8 W => u8 = .bool (tMany op) ∧ w7 = W)
    case first =>
      by_cases h3 : op = 3
      · have e3 : (op == 3) = true := by simpa using h3
        have HR : Hid (tMany op = true) := Lib.hid (by unfold tMany; simp [h3])
        clear h3
        go_wp2
        go_meet
        exact ⟨by rw [HR.out], rfl⟩
      have e3 : (op == 3) = false := by simpa using h3
      by_cases h8 : op = 8
      · have e8 : (op == 8) = true := by simpa using h8
        have HR : Hid (tMany op = true) := Lib.hid (by unfold tMany; simp [h8])
        clear h3 h8
        go_wp2
        go_meet
        exact ⟨by rw [HR.out], rfl⟩
      have e8 : (op == 8) = false := by simpa using h8
      by_cases h10 : op = 10
      · have e10 : (op == 10) = true := by simpa using h10
        have HR : Hid (tMany op = true) := Lib.hid (by unfold tMany; simp [h10])
        clear h3 h8 h10
        go_wp2
        go_meet
        exact ⟨by rw [HR.out], rfl⟩
      have e10 : (op == 10) = false := by simpa using h10
      have HR : Hid (tMany op = false) := Lib.hid (by unfold tMany; simp [h3, h8, h10])
      clear h3 h8 h10
      go_wp2
      go_meet
      exact ⟨by rw [HR.out], rfl⟩
    case rest =>
      obtain ⟨rfl, rfl⟩ := hcut
      obtain ⟨mb, Hmb⟩ : ∃ b, Hid (tMany op = b) := ⟨_, rfl⟩
      rw [Hmb.out]
      go_upto_region 21 with (fail)
      go_cut [179] (fun u179 W => u179 = .bool (tD op nc ne) ∧ w7 = W)
      case first =>
        cases mb
        · by_cases h1 : ne = 1 + nc
          · have HR : Hid (tD op nc ne = false) := Lib.hid (by unfold tD; rw [Hmb.out]; simp [h1])
            have e1 : ((ne : Int) != 1 + (nc : Int)) = false := by simp; omega
            clear h1
            go_wp2
            go_meet
            exact ⟨by rw [HR.out], rfl⟩
          · have HR : Hid (tD op nc ne = true) := Lib.hid (by unfold tD; rw [Hmb.out]; simp [h1])
            have e1 : ((ne : Int) != 1 + (nc : Int)) = true := by simp; omega
            clear h1
            go_wp2
            go_meet
            exact ⟨by rw [HR.out], rfl⟩
        · by_cases h1 : ne < 1
          · have HR : Hid (tD op nc ne = true) := Lib.hid (by unfold tD; rw [Hmb.out]; simp [h1])
            have e1 : decide ((ne : Int) < 1) = true := by simp; omega
            go_wp2
            go_meet
            exact ⟨by rw [HR.out], rfl⟩
          · have e1 : decide ((ne : Int) < 1) = false := by simp; omega
            by_cases h8 : 8 < ne
            · have HR : Hid (tD op nc ne = true) := Lib.hid (by unfold tD; rw [Hmb.out]; simp [h8])
              have e8 : decide ((8 : Int) < (ne : Int)) = true := by simp; omega
              go_wp2
              go_meet
              exact ⟨by rw [HR.out], rfl⟩
            · have HR : Hid (tD op nc ne = false) := Lib.hid (by unfold tD; rw [Hmb.out]; simp; omega)
              have e8 : decide ((8 : Int) < (ne : Int)) = false := by simp; omega
              go_wp2
              go_meet
              exact ⟨by rw [HR.out], rfl⟩
      case rest =>
        obtain ⟨rfl, rfl⟩ := hcut
        obtain ⟨td, Htd⟩ : ∃ b, Hid (tD op nc ne = b) := ⟨_, rfl⟩
        rw [Htd.out]
        cases td
        rotate_left
        · have Hf : Hid (refS op name src n cols exprs.length body.length els.length = false) := Lib.hid (by unfold refS; rw [Hcl.out, Hel.out, Htd.out]; simp)
          go_wp2
          go_ret
          exact ⟨ret_bool (by rw [Hf.out]; rfl), H07.out⟩
        have Hyes : Hid (refS op name src n cols exprs.length body.length els.length = true) := Lib.hid (by
          unfold refS
          rw [Hcols.out.1, Hcols.out.2, Hta.out, Hcl.out, Hel.out, Hbl.out, Hll.out, Htb.out, Htd.out, decide_eq_true Hop.out.1, decide_eq_true Hop.out.2]
          rfl)
        clear z0 z1 z2 z3 z4 z5 z6 z7 zl
        go_upto_block 4 with (fail)
        refine Code.wp_mono (fun _ _ _ h => h) (blkExprs F d exprs op n name src Ac Ae Ab Al nc cc ne ce nb cb nl cl w w2 w7 (HX.out _ (Below.refl _ _)) H27.out (Hel2.out _ (Below.refl _ _)) ?_ ?_)
        · intro W hno hbW
          exact ⟨ret_bool (by rw [Hyes.out, hno]; rfl), Hb2.out.trans (hbW.mono Hb2.out.size)⟩
        · intro y2 y9 y180 y181 y182 y183 y184 y185 y186 y187 y188 y189 y190 y191 wr hB hex
          have Hex := Lib.hid hex
          have H0r := Lib.hid (Hb2.out.trans (hB.mono Hb2.out.size))
          obtain ⟨z0, z1, z2, z3, z4, z5, z6, z7, zl⟩ := stBox' (HX.out wr hB)
          clear hex
          go_step
          obtain ⟨q1, Hq1⟩ : ∃ q, Hid (body.all (builtS d) = q) := ⟨_, rfl⟩
          obtain ⟨q2, Hq2⟩ : ∃ q, Hid (els.all (builtS d) = q) := ⟨_, rfl⟩
          have hC1 := rblocks_any F d ih Ab nb cb body wr (Hbl2.out wr hB)
          rw [Hq1.out] at hC1
          have HC1 := Lib.hid hC1
          clear hC1
          cases q1
          · go_wp2_with (go_at_call 29; refine HC1.out.mono ?_; rintro y w9 ⟨rfl, hb9⟩)
            go_ret
            exact ⟨ret_bool (by rw [Hyes.out, Hex.out, Hq1.out]; rfl), H0r.out.trans (hb9.mono H0r.out.size)⟩
          · have HC2 := Lib.hid (fun (W : World) (hW : Below w2.heap.size w2 W) => Hq2.out ▸ rblocks_any F d ih Al nl cl els W (Hll2.out W hW))
            go_wp2_with (first | (go_at_call 29; (with_reducible refine HC1.out.mono ?_); rintro y w9 ⟨rfl, hb9⟩; have hB9 := hB.trans (hb9.mono hB.size); obtain ⟨t0, t1, t2, t3, t4, t5, t6, t7, tl⟩ := stBox' (HX.out w9 hB9)) | (go_at_call 29; (with_reducible refine (HC2.out w9 hB9).mono ?_); rintro y w10 ⟨rfl, hb10⟩))
            go_ret
            exact ⟨ret_bool (by rw [Hyes.out, Hex.out, Hq1.out, Hq2.out]; rfl), (H0r.out.trans (hb9.mono H0r.out.size)).trans (hb10.mono (H0r.out.trans (hb9.mono H0r.out.size)).size)⟩

end Go.Proofs.Ytgihhkfppnhdpaa

namespace Go.Proofs.Ytgihhkfppnhdpaa
open Go.RowKit Go.Afx

set_option maxRecDepth 1000000 in
set_option maxHeartbeats 8000000 in
theorem leafB0 (op n : Int) (name src f : ByteArray) (Ac Ae Ab Al : Option Addr) (nc cc ne ce nb cb nl cl : Nat) (w w5 : World)
    (oknf : okS f) (hx5 : IsBlk w5 w.heap.size 52 #[.int .i64 op, .string name, .string src, .int .i64 n, .slice Ac nc cc, .slice Ae ne ce, .slice Ab nb cb, .slice Al nl cl]) (j3 : inB f 99 = hC op) (j4 : inB f 78 = hM op) (j5 : inB f 98 = hB op) (j6 : inB f 101 = hE op) (hc : hC op = false) (hm : hM op = false) (hb : hB op = false) (he : hE op = false) (hc0 : ¬ (0 < nc)) (hnz : n ≠ 0) :
    SigB op n f nc nb nl w w5 := by
  unfold SigB
  intros
  rename_i hI
  conv => arg 2; whnf
  have HI := Lib.hid hI
  clear hI
  have HR : Hid (tB op n nc nb nl = true) := Lib.hid (by unfold tB; rw [hc, hm, hb, he]; simp; omega)
  rw [hc] at j3
  have HC := Lib.hid (fun W => in_at f 99 99 _ oknf rfl j3 W)
  rw [hm] at j4
  have HM := Lib.hid (fun W => in_at f 78 78 _ oknf rfl j4 W)
  rw [hb] at j5
  have HBb := Lib.hid (fun W => in_at f 98 98 _ oknf rfl j5 W)
  rw [he] at j6
  have HEe := Lib.hid (fun W => in_at f 101 101 _ oknf rfl j6 W)
  clear j3 j4 j5 j6 hc hm hb he oknf
  obtain ⟨z0, z1, z2, z3, z4, z5, z6, z7, zl⟩ := stBox' hx5
  clear hx5
  have d0 : decide ((0 : Int) < (nc : Int)) = false := by simp; omega
  have d8 : decide ((8 : Int) < (nc : Int)) = false := by simp; omega
  have dz : (n != 0) = true := by simpa using hnz
  clear hnz
  have HSS : (fun W => W.cell? ⟨w.heap.size, 3, none⟩ = some (.int .i64 n) ∧ W.cell? ⟨w.heap.size, 4, none⟩ = some (.slice Ac nc cc) ∧ W.cell? ⟨w.heap.size, 6, none⟩ = some (.slice Ab nb cb) ∧ W.cell? ⟨w.heap.size, 7, none⟩ = some (.slice Al nl cl)) w5.drew := ⟨z3, z4, z6, z7⟩
  refine wp_region_held (S := (fun W => W.cell? ⟨w.heap.size, 3, none⟩ = some (.int .i64 n) ∧ W.cell? ⟨w.heap.size, 4, none⟩ = some (.slice Ac nc cc) ∧ W.cell? ⟨w.heap.size, 6, none⟩ = some (.slice Ab nb cb) ∧ W.cell? ⟨w.heap.size, 7, none⟩ = some (.slice Al nl cl))) (by kernel_rfl) ?_
  change wpAnyH _ _ _ _ _ _ _ _ (World.drew _)
  refine tk 0 (.string f) rfl HSS ?_
  go_simp
  refine tk 2 (.pointer (some ⟨w.heap.size, 4, none⟩)) rfl HSS ?_
  go_simp
  refine tk 3 (.slice Ac nc cc) rfl HSS ?_
  go_simp
  refine tk 4 (.int .i64 (nc : Int)) rfl HSS ?_
  go_simp
  refine tk 5 (.bool false) rfl HSS ?_
  go_simp
  refine wpAnyH_ready (rs := [1]) (by kernel_rfl) (by simp) ?_
  refine AllReadyH.cons rfl (fun K hK => ?_) AllReadyH.nil
  go_simp
  refine (HC.out _).mono ?_
  rintro e w' ⟨rfl, rfl⟩
  go_simp
  refine hK.out _ _ HSS (fun _ => ?_); clear hK K
  refine tk 6 (.bool false) rfl HSS ?_
  go_simp
  refine tk 7 (.bool false) rfl HSS ?_
  go_simp
  refine tk 8 (.pointer (some ⟨w.heap.size, 4, none⟩)) rfl HSS ?_
  go_simp
  refine tk 9 (.slice Ac nc cc) rfl HSS ?_
  go_simp
  refine tk 10 (.int .i64 (nc : Int)) rfl HSS ?_
  go_simp
  refine tk 11 (.bool false) rfl HSS ?_
  go_simp
  refine tk 12 (.bool false) rfl HSS ?_
  go_simp
  refine tk 13 (.bool false) rfl HSS ?_
  go_simp
  refine tk 14 (.string f) rfl HSS ?_
  go_simp
  refine wpAnyH_ready (rs := [15]) (by kernel_rfl) (by simp) ?_
  refine AllReadyH.cons rfl (fun K hK => ?_) AllReadyH.nil
  go_simp
  refine (HM.out _).mono ?_
  rintro e w' ⟨rfl, rfl⟩
  go_simp
  refine hK.out _ _ HSS (fun _ => ?_); clear hK K
  refine tk 16 (.bool true) rfl HSS ?_
  go_simp
  refine tk 17 (.bool true) rfl HSS ?_
  go_simp
  refine tk 18 (.pointer (some ⟨w.heap.size, 3, none⟩)) rfl HSS ?_
  go_simp
  refine tk 19 (.int .i64 n) rfl HSS ?_
  go_simp
  refine tk 20 (.bool true) rfl HSS ?_
  go_simp
  refine tk 21 (.bool true) rfl HSS ?_
  go_simp
  refine tk 22 (.bool true) rfl HSS ?_
  go_simp
  refine tk 23 (.bool true) rfl HSS ?_
  go_simp
  refine tu 24 rfl HSS ?_
  go_simp
  refine tu 25 rfl HSS ?_
  go_simp
  refine tu 26 rfl HSS ?_
  go_simp
  refine tk 27 (.bool true) rfl HSS ?_
  go_simp
  refine tk 28 (.bool true) rfl HSS ?_
  go_simp
  refine tu 29 rfl HSS ?_
  go_simp
  refine tu 30 rfl HSS ?_
  go_simp
  refine tu 31 rfl HSS ?_
  go_simp
  refine tk 32 (.bool true) rfl HSS ?_
  go_simp
  refine tk 33 (.bool true) rfl HSS ?_
  go_simp
  refine tu 34 rfl HSS ?_
  go_simp
  refine tu 35 rfl HSS ?_
  go_simp
  refine tu 36 rfl HSS ?_
  go_simp
  refine tu 37 rfl HSS ?_
  go_simp
  refine tu 38 rfl HSS ?_
  go_simp
  refine tu 39 rfl HSS ?_
  go_simp
  refine tu 40 rfl HSS ?_
  go_simp
  refine tu 41 rfl HSS ?_
  go_simp
  refine tu 42 rfl HSS ?_
  go_simp
  refine tk 43 (.bool true) rfl HSS ?_
  go_simp
  refine tk 44 (.bool true) rfl HSS ?_
  go_simp
  refine tu 45 rfl HSS ?_
  go_simp
  refine tu 46 rfl HSS ?_
  go_simp
  refine tu 47 rfl HSS ?_
  go_simp
  refine tu 48 rfl HSS ?_
  go_simp
  refine tu 49 rfl HSS ?_
  go_simp
  refine tu 50 rfl HSS ?_
  go_simp
  refine tu 51 rfl HSS ?_
  go_simp
  refine tu 52 rfl HSS ?_
  go_simp
  refine tu 53 rfl HSS ?_
  go_simp
  refine tk 54 (.bool true) rfl HSS ?_
  go_simp
  refine wpAnyH_done (by kernel_rfl) ?_ _
  exact HI.out _ _ _ _ _ _ _ _ _ _ _ _ _ _ _ _ _ _ _ _ _ _ _ _ _ _ _ _ _ _ _ _ _ _ _ _ _ _ _ _ _ _ _ _ _ _ _ _ _ _ _ _ _ _ _ _ ⟨by rw [HR.out], (Below.refl w5.heap.size w5).drew⟩

set_option maxRecDepth 1000000 in
set_option maxHeartbeats 8000000 in
theorem leafB1 (op n : Int) (name src f : ByteArray) (Ac Ae Ab Al : Option Addr) (nc cc ne ce nb cb nl cl : Nat) (w w5 : World)
    (oknf : okS f) (hx5 : IsBlk w5 w.heap.size 52 #[.int .i64 op, .string name, .string src, .int .i64 n, .slice Ac nc cc, .slice Ae ne ce, .slice Ab nb cb, .slice Al nl cl]) (j3 : inB f 99 = hC op) (j4 : inB f 78 = hM op) (j5 : inB f 98 = hB op) (j6 : inB f 101 = hE op) (hc : hC op = false) (hm : hM op = false) (hb : hB op = false) (he : hE op = false) (hc0 : ¬ (0 < nc)) (hnz : ¬ (n ≠ 0)) (hb0 : 0 < nb) :
    SigB op n f nc nb nl w w5 := by
  unfold SigB
  intros
  rename_i hI
  conv => arg 2; whnf
  have HI := Lib.hid hI
  clear hI
  have HR : Hid (tB op n nc nb nl = true) := Lib.hid (by unfold tB; rw [hc, hm, hb, he]; simp; omega)
  rw [hc] at j3
  have HC := Lib.hid (fun W => in_at f 99 99 _ oknf rfl j3 W)
  rw [hm] at j4
  have HM := Lib.hid (fun W => in_at f 78 78 _ oknf rfl j4 W)
  rw [hb] at j5
  have HBb := Lib.hid (fun W => in_at f 98 98 _ oknf rfl j5 W)
  rw [he] at j6
  have HEe := Lib.hid (fun W => in_at f 101 101 _ oknf rfl j6 W)
  clear j3 j4 j5 j6 hc hm hb he oknf
  obtain ⟨z0, z1, z2, z3, z4, z5, z6, z7, zl⟩ := stBox' hx5
  clear hx5
  have d0 : decide ((0 : Int) < (nc : Int)) = false := by simp; omega
  have d8 : decide ((8 : Int) < (nc : Int)) = false := by simp; omega
  have hn0 : n = 0 := by omega
  have Hn0 := Lib.hid hn0
  have dz : (n != 0) = false := by rw [hn0]; rfl
  have dn : decide (n < 0) = false := by simp; omega
  have dm : decide ((1000 : Int) < n) = false := by simp; omega
  clear hn0
  have db : decide ((0 : Int) < (nb : Int)) = true := by simp; omega
  clear hnz
  have HSS : (fun W => W.cell? ⟨w.heap.size, 3, none⟩ = some (.int .i64 n) ∧ W.cell? ⟨w.heap.size, 4, none⟩ = some (.slice Ac nc cc) ∧ W.cell? ⟨w.heap.size, 6, none⟩ = some (.slice Ab nb cb) ∧ W.cell? ⟨w.heap.size, 7, none⟩ = some (.slice Al nl cl)) w5.drew := ⟨z3, z4, z6, z7⟩
  refine wp_region_held (S := (fun W => W.cell? ⟨w.heap.size, 3, none⟩ = some (.int .i64 n) ∧ W.cell? ⟨w.heap.size, 4, none⟩ = some (.slice Ac nc cc) ∧ W.cell? ⟨w.heap.size, 6, none⟩ = some (.slice Ab nb cb) ∧ W.cell? ⟨w.heap.size, 7, none⟩ = some (.slice Al nl cl))) (by kernel_rfl) ?_
  change wpAnyH _ _ _ _ _ _ _ _ (World.drew _)
  refine tk 0 (.string f) rfl HSS ?_
  go_simp
  refine tk 2 (.pointer (some ⟨w.heap.size, 4, none⟩)) rfl HSS ?_
  go_simp
  refine tk 3 (.slice Ac nc cc) rfl HSS ?_
  go_simp
  refine tk 4 (.int .i64 (nc : Int)) rfl HSS ?_
  go_simp
  refine tk 5 (.bool false) rfl HSS ?_
  go_simp
  refine wpAnyH_ready (rs := [1]) (by kernel_rfl) (by simp) ?_
  refine AllReadyH.cons rfl (fun K hK => ?_) AllReadyH.nil
  go_simp
  refine (HC.out _).mono ?_
  rintro e w' ⟨rfl, rfl⟩
  go_simp
  refine hK.out _ _ HSS (fun _ => ?_); clear hK K
  refine tk 6 (.bool false) rfl HSS ?_
  go_simp
  refine tk 7 (.bool false) rfl HSS ?_
  go_simp
  refine tk 8 (.pointer (some ⟨w.heap.size, 4, none⟩)) rfl HSS ?_
  go_simp
  refine tk 9 (.slice Ac nc cc) rfl HSS ?_
  go_simp
  refine tk 10 (.int .i64 (nc : Int)) rfl HSS ?_
  go_simp
  refine tk 11 (.bool false) rfl HSS ?_
  go_simp
  refine tk 12 (.bool false) rfl HSS ?_
  go_simp
  refine tk 13 (.bool false) rfl HSS ?_
  go_simp
  refine tk 14 (.string f) rfl HSS ?_
  go_simp
  refine wpAnyH_ready (rs := [15]) (by kernel_rfl) (by simp) ?_
  refine AllReadyH.cons rfl (fun K hK => ?_) AllReadyH.nil
  go_simp
  refine (HM.out _).mono ?_
  rintro e w' ⟨rfl, rfl⟩
  go_simp
  refine hK.out _ _ HSS (fun _ => ?_); clear hK K
  refine tk 16 (.bool true) rfl HSS ?_
  go_simp
  refine tk 17 (.bool true) rfl HSS ?_
  go_simp
  refine tk 18 (.pointer (some ⟨w.heap.size, 3, none⟩)) rfl HSS ?_
  go_simp
  refine tk 19 (.int .i64 n) rfl HSS ?_
  go_simp
  refine tk 20 (.bool false) rfl HSS ?_
  go_simp
  refine tk 21 (.bool false) rfl HSS ?_
  go_simp
  refine tk 22 (.bool false) rfl HSS ?_
  go_simp
  refine tk 23 (.bool false) rfl HSS ?_
  go_simp
  refine tk 24 (.pointer (some ⟨w.heap.size, 3, none⟩)) rfl HSS ?_
  go_simp
  refine tk 25 (.int .i64 n) rfl HSS ?_
  go_simp
  refine tk 26 (.bool false) rfl HSS ?_
  go_simp
  refine tk 27 (.bool false) rfl HSS ?_
  go_simp
  refine tk 28 (.bool false) rfl HSS ?_
  go_simp
  refine tk 29 (.pointer (some ⟨w.heap.size, 3, none⟩)) rfl HSS ?_
  go_simp
  refine tk 30 (.int .i64 n) rfl HSS ?_
  go_simp
  refine tk 31 (.bool false) rfl HSS ?_
  go_simp
  refine tk 32 (.bool false) rfl HSS ?_
  go_simp
  refine tk 33 (.bool false) rfl HSS ?_
  go_simp
  refine tk 34 (.string f) rfl HSS ?_
  go_simp
  refine wpAnyH_ready (rs := [35]) (by kernel_rfl) (by simp) ?_
  refine AllReadyH.cons rfl (fun K hK => ?_) AllReadyH.nil
  go_simp
  refine (HBb.out _).mono ?_
  rintro e w' ⟨rfl, rfl⟩
  go_simp
  refine hK.out _ _ HSS (fun _ => ?_); clear hK K
  refine tk 36 (.bool true) rfl HSS ?_
  go_simp
  refine tk 37 (.bool true) rfl HSS ?_
  go_simp
  refine tk 38 (.pointer (some ⟨w.heap.size, 6, none⟩)) rfl HSS ?_
  go_simp
  refine tk 39 (.slice Ab nb cb) rfl HSS ?_
  go_simp
  refine tk 40 (.int .i64 (nb : Int)) rfl HSS ?_
  go_simp
  refine tk 41 (.bool true) rfl HSS ?_
  go_simp
  refine tk 42 (.bool true) rfl HSS ?_
  go_simp
  refine tk 43 (.bool true) rfl HSS ?_
  go_simp
  refine tk 44 (.bool true) rfl HSS ?_
  go_simp
  refine tu 45 rfl HSS ?_
  go_simp
  refine tu 46 rfl HSS ?_
  go_simp
  refine tu 47 rfl HSS ?_
  go_simp
  refine tu 48 rfl HSS ?_
  go_simp
  refine tu 49 rfl HSS ?_
  go_simp
  refine tu 50 rfl HSS ?_
  go_simp
  refine tu 51 rfl HSS ?_
  go_simp
  refine tu 52 rfl HSS ?_
  go_simp
  refine tu 53 rfl HSS ?_
  go_simp
  refine tk 54 (.bool true) rfl HSS ?_
  go_simp
  refine wpAnyH_done (by kernel_rfl) ?_ _
  exact HI.out _ _ _ _ _ _ _ _ _ _ _ _ _ _ _ _ _ _ _ _ _ _ _ _ _ _ _ _ _ _ _ _ _ _ _ _ _ _ _ _ _ _ _ _ _ _ _ _ _ _ _ _ _ _ _ _ ⟨by rw [HR.out], (Below.refl w5.heap.size w5).drew⟩

set_option maxRecDepth 1000000 in
set_option maxHeartbeats 8000000 in
theorem leafB2 (op n : Int) (name src f : ByteArray) (Ac Ae Ab Al : Option Addr) (nc cc ne ce nb cb nl cl : Nat) (w w5 : World)
    (oknf : okS f) (hx5 : IsBlk w5 w.heap.size 52 #[.int .i64 op, .string name, .string src, .int .i64 n, .slice Ac nc cc, .slice Ae ne ce, .slice Ab nb cb, .slice Al nl cl]) (j3 : inB f 99 = hC op) (j4 : inB f 78 = hM op) (j5 : inB f 98 = hB op) (j6 : inB f 101 = hE op) (hc : hC op = false) (hm : hM op = false) (hb : hB op = false) (he : hE op = false) (hc0 : ¬ (0 < nc)) (hnz : ¬ (n ≠ 0)) (hb0 : ¬ (0 < nb)) (he0 : 0 < nl) :
    SigB op n f nc nb nl w w5 := by
  unfold SigB
  intros
  rename_i hI
  conv => arg 2; whnf
  have HI := Lib.hid hI
  clear hI
  have HR : Hid (tB op n nc nb nl = true) := Lib.hid (by unfold tB; rw [hc, hm, hb, he]; simp; omega)
  rw [hc] at j3
  have HC := Lib.hid (fun W => in_at f 99 99 _ oknf rfl j3 W)
  rw [hm] at j4
  have HM := Lib.hid (fun W => in_at f 78 78 _ oknf rfl j4 W)
  rw [hb] at j5
  have HBb := Lib.hid (fun W => in_at f 98 98 _ oknf rfl j5 W)
  rw [he] at j6
  have HEe := Lib.hid (fun W => in_at f 101 101 _ oknf rfl j6 W)
  clear j3 j4 j5 j6 hc hm hb he oknf
  obtain ⟨z0, z1, z2, z3, z4, z5, z6, z7, zl⟩ := stBox' hx5
  clear hx5
  have d0 : decide ((0 : Int) < (nc : Int)) = false := by simp; omega
  have d8 : decide ((8 : Int) < (nc : Int)) = false := by simp; omega
  have hn0 : n = 0 := by omega
  have Hn0 := Lib.hid hn0
  have dz : (n != 0) = false := by rw [hn0]; rfl
  have dn : decide (n < 0) = false := by simp; omega
  have dm : decide ((1000 : Int) < n) = false := by simp; omega
  clear hn0
  have db : decide ((0 : Int) < (nb : Int)) = false := by simp; omega
  have de : decide ((0 : Int) < (nl : Int)) = true := by simp; omega
  clear hnz
  have HSS : (fun W => W.cell? ⟨w.heap.size, 3, none⟩ = some (.int .i64 n) ∧ W.cell? ⟨w.heap.size, 4, none⟩ = some (.slice Ac nc cc) ∧ W.cell? ⟨w.heap.size, 6, none⟩ = some (.slice Ab nb cb) ∧ W.cell? ⟨w.heap.size, 7, none⟩ = some (.slice Al nl cl)) w5.drew := ⟨z3, z4, z6, z7⟩
  refine wp_region_held (S := (fun W => W.cell? ⟨w.heap.size, 3, none⟩ = some (.int .i64 n) ∧ W.cell? ⟨w.heap.size, 4, none⟩ = some (.slice Ac nc cc) ∧ W.cell? ⟨w.heap.size, 6, none⟩ = some (.slice Ab nb cb) ∧ W.cell? ⟨w.heap.size, 7, none⟩ = some (.slice Al nl cl))) (by kernel_rfl) ?_
  change wpAnyH _ _ _ _ _ _ _ _ (World.drew _)
  refine tk 0 (.string f) rfl HSS ?_
  go_simp
  refine tk 2 (.pointer (some ⟨w.heap.size, 4, none⟩)) rfl HSS ?_
  go_simp
  refine tk 3 (.slice Ac nc cc) rfl HSS ?_
  go_simp
  refine tk 4 (.int .i64 (nc : Int)) rfl HSS ?_
  go_simp
  refine tk 5 (.bool false) rfl HSS ?_
  go_simp
  refine wpAnyH_ready (rs := [1]) (by kernel_rfl) (by simp) ?_
  refine AllReadyH.cons rfl (fun K hK => ?_) AllReadyH.nil
  go_simp
  refine (HC.out _).mono ?_
  rintro e w' ⟨rfl, rfl⟩
  go_simp
  refine hK.out _ _ HSS (fun _ => ?_); clear hK K
  refine tk 6 (.bool false) rfl HSS ?_
  go_simp
  refine tk 7 (.bool false) rfl HSS ?_
  go_simp
  refine tk 8 (.pointer (some ⟨w.heap.size, 4, none⟩)) rfl HSS ?_
  go_simp
  refine tk 9 (.slice Ac nc cc) rfl HSS ?_
  go_simp
  refine tk 10 (.int .i64 (nc : Int)) rfl HSS ?_
  go_simp
  refine tk 11 (.bool false) rfl HSS ?_
  go_simp
  refine tk 12 (.bool false) rfl HSS ?_
  go_simp
  refine tk 13 (.bool false) rfl HSS ?_
  go_simp
  refine tk 14 (.string f) rfl HSS ?_
  go_simp
  refine wpAnyH_ready (rs := [15]) (by kernel_rfl) (by simp) ?_
  refine AllReadyH.cons rfl (fun K hK => ?_) AllReadyH.nil
  go_simp
  refine (HM.out _).mono ?_
  rintro e w' ⟨rfl, rfl⟩
  go_simp
  refine hK.out _ _ HSS (fun _ => ?_); clear hK K
  refine tk 16 (.bool true) rfl HSS ?_
  go_simp
  refine tk 17 (.bool true) rfl HSS ?_
  go_simp
  refine tk 18 (.pointer (some ⟨w.heap.size, 3, none⟩)) rfl HSS ?_
  go_simp
  refine tk 19 (.int .i64 n) rfl HSS ?_
  go_simp
  refine tk 20 (.bool false) rfl HSS ?_
  go_simp
  refine tk 21 (.bool false) rfl HSS ?_
  go_simp
  refine tk 22 (.bool false) rfl HSS ?_
  go_simp
  refine tk 23 (.bool false) rfl HSS ?_
  go_simp
  refine tk 24 (.pointer (some ⟨w.heap.size, 3, none⟩)) rfl HSS ?_
  go_simp
  refine tk 25 (.int .i64 n) rfl HSS ?_
  go_simp
  refine tk 26 (.bool false) rfl HSS ?_
  go_simp
  refine tk 27 (.bool false) rfl HSS ?_
  go_simp
  refine tk 28 (.bool false) rfl HSS ?_
  go_simp
  refine tk 29 (.pointer (some ⟨w.heap.size, 3, none⟩)) rfl HSS ?_
  go_simp
  refine tk 30 (.int .i64 n) rfl HSS ?_
  go_simp
  refine tk 31 (.bool false) rfl HSS ?_
  go_simp
  refine tk 32 (.bool false) rfl HSS ?_
  go_simp
  refine tk 33 (.bool false) rfl HSS ?_
  go_simp
  refine tk 34 (.string f) rfl HSS ?_
  go_simp
  refine wpAnyH_ready (rs := [35]) (by kernel_rfl) (by simp) ?_
  refine AllReadyH.cons rfl (fun K hK => ?_) AllReadyH.nil
  go_simp
  refine (HBb.out _).mono ?_
  rintro e w' ⟨rfl, rfl⟩
  go_simp
  refine hK.out _ _ HSS (fun _ => ?_); clear hK K
  refine tk 36 (.bool true) rfl HSS ?_
  go_simp
  refine tk 37 (.bool true) rfl HSS ?_
  go_simp
  refine tk 38 (.pointer (some ⟨w.heap.size, 6, none⟩)) rfl HSS ?_
  go_simp
  refine tk 39 (.slice Ab nb cb) rfl HSS ?_
  go_simp
  refine tk 40 (.int .i64 (nb : Int)) rfl HSS ?_
  go_simp
  refine tk 41 (.bool false) rfl HSS ?_
  go_simp
  refine tk 42 (.bool false) rfl HSS ?_
  go_simp
  refine tk 43 (.bool false) rfl HSS ?_
  go_simp
  refine tk 44 (.bool false) rfl HSS ?_
  go_simp
  refine tk 45 (.string f) rfl HSS ?_
  go_simp
  refine wpAnyH_ready (rs := [46]) (by kernel_rfl) (by simp) ?_
  refine AllReadyH.cons rfl (fun K hK => ?_) AllReadyH.nil
  go_simp
  refine (HEe.out _).mono ?_
  rintro e w' ⟨rfl, rfl⟩
  go_simp
  refine hK.out _ _ HSS (fun _ => ?_); clear hK K
  refine tk 47 (.bool true) rfl HSS ?_
  go_simp
  refine tk 48 (.bool true) rfl HSS ?_
  go_simp
  refine tk 49 (.pointer (some ⟨w.heap.size, 7, none⟩)) rfl HSS ?_
  go_simp
  refine tk 50 (.slice Al nl cl) rfl HSS ?_
  go_simp
  refine tk 51 (.int .i64 (nl : Int)) rfl HSS ?_
  go_simp
  refine tk 52 (.bool true) rfl HSS ?_
  go_simp
  refine tk 53 (.bool true) rfl HSS ?_
  go_simp
  refine tk 54 (.bool true) rfl HSS ?_
  go_simp
  refine wpAnyH_done (by kernel_rfl) ?_ _
  exact HI.out _ _ _ _ _ _ _ _ _ _ _ _ _ _ _ _ _ _ _ _ _ _ _ _ _ _ _ _ _ _ _ _ _ _ _ _ _ _ _ _ _ _ _ _ _ _ _ _ _ _ _ _ _ _ _ _ ⟨by rw [HR.out], (Below.refl w5.heap.size w5).drew⟩

set_option maxRecDepth 1000000 in
set_option maxHeartbeats 8000000 in
theorem leafB3 (op n : Int) (name src f : ByteArray) (Ac Ae Ab Al : Option Addr) (nc cc ne ce nb cb nl cl : Nat) (w w5 : World)
    (oknf : okS f) (hx5 : IsBlk w5 w.heap.size 52 #[.int .i64 op, .string name, .string src, .int .i64 n, .slice Ac nc cc, .slice Ae ne ce, .slice Ab nb cb, .slice Al nl cl]) (j3 : inB f 99 = hC op) (j4 : inB f 78 = hM op) (j5 : inB f 98 = hB op) (j6 : inB f 101 = hE op) (hc : hC op = false) (hm : hM op = false) (hb : hB op = false) (he : hE op = false) (hc0 : ¬ (0 < nc)) (hnz : ¬ (n ≠ 0)) (hb0 : ¬ (0 < nb)) (he0 : ¬ (0 < nl)) :
    SigB op n f nc nb nl w w5 := by
  unfold SigB
  intros
  rename_i hI
  conv => arg 2; whnf
  have HI := Lib.hid hI
  clear hI
  have HR : Hid (tB op n nc nb nl = false) := Lib.hid (by unfold tB; rw [hc, hm, hb, he]; simp; omega)
  rw [hc] at j3
  have HC := Lib.hid (fun W => in_at f 99 99 _ oknf rfl j3 W)
  rw [hm] at j4
  have HM := Lib.hid (fun W => in_at f 78 78 _ oknf rfl j4 W)
  rw [hb] at j5
  have HBb := Lib.hid (fun W => in_at f 98 98 _ oknf rfl j5 W)
  rw [he] at j6
  have HEe := Lib.hid (fun W => in_at f 101 101 _ oknf rfl j6 W)
  clear j3 j4 j5 j6 hc hm hb he oknf
  obtain ⟨z0, z1, z2, z3, z4, z5, z6, z7, zl⟩ := stBox' hx5
  clear hx5
  have d0 : decide ((0 : Int) < (nc : Int)) = false := by simp; omega
  have d8 : decide ((8 : Int) < (nc : Int)) = false := by simp; omega
  have hn0 : n = 0 := by omega
  have Hn0 := Lib.hid hn0
  have dz : (n != 0) = false := by rw [hn0]; rfl
  have dn : decide (n < 0) = false := by simp; omega
  have dm : decide ((1000 : Int) < n) = false := by simp; omega
  clear hn0
  have db : decide ((0 : Int) < (nb : Int)) = false := by simp; omega
  have de : decide ((0 : Int) < (nl : Int)) = false := by simp; omega
  clear hnz
  have HSS : (fun W => W.cell? ⟨w.heap.size, 3, none⟩ = some (.int .i64 n) ∧ W.cell? ⟨w.heap.size, 4, none⟩ = some (.slice Ac nc cc) ∧ W.cell? ⟨w.heap.size, 6, none⟩ = some (.slice Ab nb cb) ∧ W.cell? ⟨w.heap.size, 7, none⟩ = some (.slice Al nl cl)) w5.drew := ⟨z3, z4, z6, z7⟩
  refine wp_region_held (S := (fun W => W.cell? ⟨w.heap.size, 3, none⟩ = some (.int .i64 n) ∧ W.cell? ⟨w.heap.size, 4, none⟩ = some (.slice Ac nc cc) ∧ W.cell? ⟨w.heap.size, 6, none⟩ = some (.slice Ab nb cb) ∧ W.cell? ⟨w.heap.size, 7, none⟩ = some (.slice Al nl cl))) (by kernel_rfl) ?_
  change wpAnyH _ _ _ _ _ _ _ _ (World.drew _)
  refine tk 0 (.string f) rfl HSS ?_
  go_simp
  refine tk 2 (.pointer (some ⟨w.heap.size, 4, none⟩)) rfl HSS ?_
  go_simp
  refine tk 3 (.slice Ac nc cc) rfl HSS ?_
  go_simp
  refine tk 4 (.int .i64 (nc : Int)) rfl HSS ?_
  go_simp
  refine tk 5 (.bool false) rfl HSS ?_
  go_simp
  refine wpAnyH_ready (rs := [1]) (by kernel_rfl) (by simp) ?_
  refine AllReadyH.cons rfl (fun K hK => ?_) AllReadyH.nil
  go_simp
  refine (HC.out _).mono ?_
  rintro e w' ⟨rfl, rfl⟩
  go_simp
  refine hK.out _ _ HSS (fun _ => ?_); clear hK K
  refine tk 6 (.bool false) rfl HSS ?_
  go_simp
  refine tk 7 (.bool false) rfl HSS ?_
  go_simp
  refine tk 8 (.pointer (some ⟨w.heap.size, 4, none⟩)) rfl HSS ?_
  go_simp
  refine tk 9 (.slice Ac nc cc) rfl HSS ?_
  go_simp
  refine tk 10 (.int .i64 (nc : Int)) rfl HSS ?_
  go_simp
  refine tk 11 (.bool false) rfl HSS ?_
  go_simp
  refine tk 12 (.bool false) rfl HSS ?_
  go_simp
  refine tk 13 (.bool false) rfl HSS ?_
  go_simp
  refine tk 14 (.string f) rfl HSS ?_
  go_simp
  refine wpAnyH_ready (rs := [15]) (by kernel_rfl) (by simp) ?_
  refine AllReadyH.cons rfl (fun K hK => ?_) AllReadyH.nil
  go_simp
  refine (HM.out _).mono ?_
  rintro e w' ⟨rfl, rfl⟩
  go_simp
  refine hK.out _ _ HSS (fun _ => ?_); clear hK K
  refine tk 16 (.bool true) rfl HSS ?_
  go_simp
  refine tk 17 (.bool true) rfl HSS ?_
  go_simp
  refine tk 18 (.pointer (some ⟨w.heap.size, 3, none⟩)) rfl HSS ?_
  go_simp
  refine tk 19 (.int .i64 n) rfl HSS ?_
  go_simp
  refine tk 20 (.bool false) rfl HSS ?_
  go_simp
  refine tk 21 (.bool false) rfl HSS ?_
  go_simp
  refine tk 22 (.bool false) rfl HSS ?_
  go_simp
  refine tk 23 (.bool false) rfl HSS ?_
  go_simp
  refine tk 24 (.pointer (some ⟨w.heap.size, 3, none⟩)) rfl HSS ?_
  go_simp
  refine tk 25 (.int .i64 n) rfl HSS ?_
  go_simp
  refine tk 26 (.bool false) rfl HSS ?_
  go_simp
  refine tk 27 (.bool false) rfl HSS ?_
  go_simp
  refine tk 28 (.bool false) rfl HSS ?_
  go_simp
  refine tk 29 (.pointer (some ⟨w.heap.size, 3, none⟩)) rfl HSS ?_
  go_simp
  refine tk 30 (.int .i64 n) rfl HSS ?_
  go_simp
  refine tk 31 (.bool false) rfl HSS ?_
  go_simp
  refine tk 32 (.bool false) rfl HSS ?_
  go_simp
  refine tk 33 (.bool false) rfl HSS ?_
  go_simp
  refine tk 34 (.string f) rfl HSS ?_
  go_simp
  refine wpAnyH_ready (rs := [35]) (by kernel_rfl) (by simp) ?_
  refine AllReadyH.cons rfl (fun K hK => ?_) AllReadyH.nil
  go_simp
  refine (HBb.out _).mono ?_
  rintro e w' ⟨rfl, rfl⟩
  go_simp
  refine hK.out _ _ HSS (fun _ => ?_); clear hK K
  refine tk 36 (.bool true) rfl HSS ?_
  go_simp
  refine tk 37 (.bool true) rfl HSS ?_
  go_simp
  refine tk 38 (.pointer (some ⟨w.heap.size, 6, none⟩)) rfl HSS ?_
  go_simp
  refine tk 39 (.slice Ab nb cb) rfl HSS ?_
  go_simp
  refine tk 40 (.int .i64 (nb : Int)) rfl HSS ?_
  go_simp
  refine tk 41 (.bool false) rfl HSS ?_
  go_simp
  refine tk 42 (.bool false) rfl HSS ?_
  go_simp
  refine tk 43 (.bool false) rfl HSS ?_
  go_simp
  refine tk 44 (.bool false) rfl HSS ?_
  go_simp
  refine tk 45 (.string f) rfl HSS ?_
  go_simp
  refine wpAnyH_ready (rs := [46]) (by kernel_rfl) (by simp) ?_
  refine AllReadyH.cons rfl (fun K hK => ?_) AllReadyH.nil
  go_simp
  refine (HEe.out _).mono ?_
  rintro e w' ⟨rfl, rfl⟩
  go_simp
  refine hK.out _ _ HSS (fun _ => ?_); clear hK K
  refine tk 47 (.bool true) rfl HSS ?_
  go_simp
  refine tk 48 (.bool true) rfl HSS ?_
  go_simp
  refine tk 49 (.pointer (some ⟨w.heap.size, 7, none⟩)) rfl HSS ?_
  go_simp
  refine tk 50 (.slice Al nl cl) rfl HSS ?_
  go_simp
  refine tk 51 (.int .i64 (nl : Int)) rfl HSS ?_
  go_simp
  refine tk 52 (.bool false) rfl HSS ?_
  go_simp
  refine tk 53 (.bool false) rfl HSS ?_
  go_simp
  refine tk 54 (.bool false) rfl HSS ?_
  go_simp
  refine wpAnyH_done (by kernel_rfl) ?_ _
  exact HI.out _ _ _ _ _ _ _ _ _ _ _ _ _ _ _ _ _ _ _ _ _ _ _ _ _ _ _ _ _ _ _ _ _ _ _ _ _ _ _ _ _ _ _ _ _ _ _ _ _ _ _ _ _ _ _ _ ⟨by rw [HR.out], (Below.refl w5.heap.size w5).drew⟩

set_option maxRecDepth 1000000 in
set_option maxHeartbeats 8000000 in
theorem leafB4 (op n : Int) (name src f : ByteArray) (Ac Ae Ab Al : Option Addr) (nc cc ne ce nb cb nl cl : Nat) (w w5 : World)
    (oknf : okS f) (hx5 : IsBlk w5 w.heap.size 52 #[.int .i64 op, .string name, .string src, .int .i64 n, .slice Ac nc cc, .slice Ae ne ce, .slice Ab nb cb, .slice Al nl cl]) (j3 : inB f 99 = hC op) (j4 : inB f 78 = hM op) (j5 : inB f 98 = hB op) (j6 : inB f 101 = hE op) (hc : hC op = false) (hm : hM op = false) (hb : hB op = false) (he : hE op = false) (hc0 : 0 < nc) :
    SigB op n f nc nb nl w w5 := by
  unfold SigB
  intros
  rename_i hI
  conv => arg 2; whnf
  have HI := Lib.hid hI
  clear hI
  have HR : Hid (tB op n nc nb nl = true) := Lib.hid (by unfold tB; rw [hc, hm, hb, he]; simp; omega)
  rw [hc] at j3
  have HC := Lib.hid (fun W => in_at f 99 99 _ oknf rfl j3 W)
  rw [hm] at j4
  have HM := Lib.hid (fun W => in_at f 78 78 _ oknf rfl j4 W)
  rw [hb] at j5
  have HBb := Lib.hid (fun W => in_at f 98 98 _ oknf rfl j5 W)
  rw [he] at j6
  have HEe := Lib.hid (fun W => in_at f 101 101 _ oknf rfl j6 W)
  clear j3 j4 j5 j6 hc hm hb he oknf
  obtain ⟨z0, z1, z2, z3, z4, z5, z6, z7, zl⟩ := stBox' hx5
  clear hx5
  have d0 : decide ((0 : Int) < (nc : Int)) = true := by simp; omega
  have HSS : (fun W => W.cell? ⟨w.heap.size, 3, none⟩ = some (.int .i64 n) ∧ W.cell? ⟨w.heap.size, 4, none⟩ = some (.slice Ac nc cc) ∧ W.cell? ⟨w.heap.size, 6, none⟩ = some (.slice Ab nb cb) ∧ W.cell? ⟨w.heap.size, 7, none⟩ = some (.slice Al nl cl)) w5.drew := ⟨z3, z4, z6, z7⟩
  refine wp_region_held (S := (fun W => W.cell? ⟨w.heap.size, 3, none⟩ = some (.int .i64 n) ∧ W.cell? ⟨w.heap.size, 4, none⟩ = some (.slice Ac nc cc) ∧ W.cell? ⟨w.heap.size, 6, none⟩ = some (.slice Ab nb cb) ∧ W.cell? ⟨w.heap.size, 7, none⟩ = some (.slice Al nl cl))) (by kernel_rfl) ?_
  change wpAnyH _ _ _ _ _ _ _ _ (World.drew _)
  refine tk 0 (.string f) rfl HSS ?_
  go_simp
  refine tk 2 (.pointer (some ⟨w.heap.size, 4, none⟩)) rfl HSS ?_
  go_simp
  refine tk 3 (.slice Ac nc cc) rfl HSS ?_
  go_simp
  refine tk 4 (.int .i64 (nc : Int)) rfl HSS ?_
  go_simp
  refine tk 5 (.bool true) rfl HSS ?_
  go_simp
  refine wpAnyH_ready (rs := [1]) (by kernel_rfl) (by simp) ?_
  refine AllReadyH.cons rfl (fun K hK => ?_) AllReadyH.nil
  go_simp
  refine (HC.out _).mono ?_
  rintro e w' ⟨rfl, rfl⟩
  go_simp
  refine hK.out _ _ HSS (fun _ => ?_); clear hK K
  refine tk 6 (.bool true) rfl HSS ?_
  go_simp
  refine tk 7 (.bool true) rfl HSS ?_
  go_simp
  refine tu 8 rfl HSS ?_
  go_simp
  refine tu 9 rfl HSS ?_
  go_simp
  refine tu 10 rfl HSS ?_
  go_simp
  refine tu 11 rfl HSS ?_
  go_simp
  refine tk 12 (.bool true) rfl HSS ?_
  go_simp
  refine tk 13 (.bool true) rfl HSS ?_
  go_simp
  refine tu 14 rfl HSS ?_
  go_simp
  refine tu 15 rfl HSS ?_
  go_simp
  refine tu 16 rfl HSS ?_
  go_simp
  refine tu 17 rfl HSS ?_
  go_simp
  refine tu 18 rfl HSS ?_
  go_simp
  refine tu 19 rfl HSS ?_
  go_simp
  refine tu 20 rfl HSS ?_
  go_simp
  refine tu 21 rfl HSS ?_
  go_simp
  refine tk 22 (.bool true) rfl HSS ?_
  go_simp
  refine tk 23 (.bool true) rfl HSS ?_
  go_simp
  refine tu 24 rfl HSS ?_
  go_simp
  refine tu 25 rfl HSS ?_
  go_simp
  refine tu 26 rfl HSS ?_
  go_simp
  refine tk 27 (.bool true) rfl HSS ?_
  go_simp
  refine tk 28 (.bool true) rfl HSS ?_
  go_simp
  refine tu 29 rfl HSS ?_
  go_simp
  refine tu 30 rfl HSS ?_
  go_simp
  refine tu 31 rfl HSS ?_
  go_simp
  refine tk 32 (.bool true) rfl HSS ?_
  go_simp
  refine tk 33 (.bool true) rfl HSS ?_
  go_simp
  refine tu 34 rfl HSS ?_
  go_simp
  refine tu 35 rfl HSS ?_
  go_simp
  refine tu 36 rfl HSS ?_
  go_simp
  refine tu 37 rfl HSS ?_
  go_simp
  refine tu 38 rfl HSS ?_
  go_simp
  refine tu 39 rfl HSS ?_
  go_simp
  refine tu 40 rfl HSS ?_
  go_simp
  refine tu 41 rfl HSS ?_
  go_simp
  refine tu 42 rfl HSS ?_
  go_simp
  refine tk 43 (.bool true) rfl HSS ?_
  go_simp
  refine tk 44 (.bool true) rfl HSS ?_
  go_simp
  refine tu 45 rfl HSS ?_
  go_simp
  refine tu 46 rfl HSS ?_
  go_simp
  refine tu 47 rfl HSS ?_
  go_simp
  refine tu 48 rfl HSS ?_
  go_simp
  refine tu 49 rfl HSS ?_
  go_simp
  refine tu 50 rfl HSS ?_
  go_simp
  refine tu 51 rfl HSS ?_
  go_simp
  refine tu 52 rfl HSS ?_
  go_simp
  refine tu 53 rfl HSS ?_
  go_simp
  refine tk 54 (.bool true) rfl HSS ?_
  go_simp
  refine wpAnyH_done (by kernel_rfl) ?_ _
  exact HI.out _ _ _ _ _ _ _ _ _ _ _ _ _ _ _ _ _ _ _ _ _ _ _ _ _ _ _ _ _ _ _ _ _ _ _ _ _ _ _ _ _ _ _ _ _ _ _ _ _ _ _ _ _ _ _ _ ⟨by rw [HR.out], (Below.refl w5.heap.size w5).drew⟩

set_option maxRecDepth 1000000 in
set_option maxHeartbeats 8000000 in
theorem leafB5 (op n : Int) (name src f : ByteArray) (Ac Ae Ab Al : Option Addr) (nc cc ne ce nb cb nl cl : Nat) (w w5 : World)
    (oknf : okS f) (hx5 : IsBlk w5 w.heap.size 52 #[.int .i64 op, .string name, .string src, .int .i64 n, .slice Ac nc cc, .slice Ae ne ce, .slice Ab nb cb, .slice Al nl cl]) (j3 : inB f 99 = hC op) (j4 : inB f 78 = hM op) (j5 : inB f 98 = hB op) (j6 : inB f 101 = hE op) (hc : hC op = true) (hm : hM op = false) (hb : hB op = false) (he : hE op = false) (hc0 : ¬ (0 < nc)) :
    SigB op n f nc nb nl w w5 := by
  unfold SigB
  intros
  rename_i hI
  conv => arg 2; whnf
  have HI := Lib.hid hI
  clear hI
  have HR : Hid (tB op n nc nb nl = true) := Lib.hid (by unfold tB; rw [hc, hm, hb, he]; simp; omega)
  rw [hc] at j3
  have HC := Lib.hid (fun W => in_at f 99 99 _ oknf rfl j3 W)
  rw [hm] at j4
  have HM := Lib.hid (fun W => in_at f 78 78 _ oknf rfl j4 W)
  rw [hb] at j5
  have HBb := Lib.hid (fun W => in_at f 98 98 _ oknf rfl j5 W)
  rw [he] at j6
  have HEe := Lib.hid (fun W => in_at f 101 101 _ oknf rfl j6 W)
  clear j3 j4 j5 j6 hc hm hb he oknf
  obtain ⟨z0, z1, z2, z3, z4, z5, z6, z7, zl⟩ := stBox' hx5
  clear hx5
  have d0 : decide ((0 : Int) < (nc : Int)) = false := by simp; omega
  have d8 : decide ((8 : Int) < (nc : Int)) = false := by simp; omega
  have HSS : (fun W => W.cell? ⟨w.heap.size, 3, none⟩ = some (.int .i64 n) ∧ W.cell? ⟨w.heap.size, 4, none⟩ = some (.slice Ac nc cc) ∧ W.cell? ⟨w.heap.size, 6, none⟩ = some (.slice Ab nb cb) ∧ W.cell? ⟨w.heap.size, 7, none⟩ = some (.slice Al nl cl)) w5.drew := ⟨z3, z4, z6, z7⟩
  refine wp_region_held (S := (fun W => W.cell? ⟨w.heap.size, 3, none⟩ = some (.int .i64 n) ∧ W.cell? ⟨w.heap.size, 4, none⟩ = some (.slice Ac nc cc) ∧ W.cell? ⟨w.heap.size, 6, none⟩ = some (.slice Ab nb cb) ∧ W.cell? ⟨w.heap.size, 7, none⟩ = some (.slice Al nl cl))) (by kernel_rfl) ?_
  change wpAnyH _ _ _ _ _ _ _ _ (World.drew _)
  refine tk 0 (.string f) rfl HSS ?_
  go_simp
  refine tk 2 (.pointer (some ⟨w.heap.size, 4, none⟩)) rfl HSS ?_
  go_simp
  refine tk 3 (.slice Ac nc cc) rfl HSS ?_
  go_simp
  refine tk 4 (.int .i64 (nc : Int)) rfl HSS ?_
  go_simp
  refine tk 5 (.bool false) rfl HSS ?_
  go_simp
  refine wpAnyH_ready (rs := [1]) (by kernel_rfl) (by simp) ?_
  refine AllReadyH.cons rfl (fun K hK => ?_) AllReadyH.nil
  go_simp
  refine (HC.out _).mono ?_
  rintro e w' ⟨rfl, rfl⟩
  go_simp
  refine hK.out _ _ HSS (fun _ => ?_); clear hK K
  refine tk 6 (.bool true) rfl HSS ?_
  go_simp
  refine tk 7 (.bool true) rfl HSS ?_
  go_simp
  refine tu 8 rfl HSS ?_
  go_simp
  refine tu 9 rfl HSS ?_
  go_simp
  refine tu 10 rfl HSS ?_
  go_simp
  refine tu 11 rfl HSS ?_
  go_simp
  refine tk 12 (.bool true) rfl HSS ?_
  go_simp
  refine tk 13 (.bool true) rfl HSS ?_
  go_simp
  refine tu 14 rfl HSS ?_
  go_simp
  refine tu 15 rfl HSS ?_
  go_simp
  refine tu 16 rfl HSS ?_
  go_simp
  refine tu 17 rfl HSS ?_
  go_simp
  refine tu 18 rfl HSS ?_
  go_simp
  refine tu 19 rfl HSS ?_
  go_simp
  refine tu 20 rfl HSS ?_
  go_simp
  refine tu 21 rfl HSS ?_
  go_simp
  refine tk 22 (.bool true) rfl HSS ?_
  go_simp
  refine tk 23 (.bool true) rfl HSS ?_
  go_simp
  refine tu 24 rfl HSS ?_
  go_simp
  refine tu 25 rfl HSS ?_
  go_simp
  refine tu 26 rfl HSS ?_
  go_simp
  refine tk 27 (.bool true) rfl HSS ?_
  go_simp
  refine tk 28 (.bool true) rfl HSS ?_
  go_simp
  refine tu 29 rfl HSS ?_
  go_simp
  refine tu 30 rfl HSS ?_
  go_simp
  refine tu 31 rfl HSS ?_
  go_simp
  refine tk 32 (.bool true) rfl HSS ?_
  go_simp
  refine tk 33 (.bool true) rfl HSS ?_
  go_simp
  refine tu 34 rfl HSS ?_
  go_simp
  refine tu 35 rfl HSS ?_
  go_simp
  refine tu 36 rfl HSS ?_
  go_simp
  refine tu 37 rfl HSS ?_
  go_simp
  refine tu 38 rfl HSS ?_
  go_simp
  refine tu 39 rfl HSS ?_
  go_simp
  refine tu 40 rfl HSS ?_
  go_simp
  refine tu 41 rfl HSS ?_
  go_simp
  refine tu 42 rfl HSS ?_
  go_simp
  refine tk 43 (.bool true) rfl HSS ?_
  go_simp
  refine tk 44 (.bool true) rfl HSS ?_
  go_simp
  refine tu 45 rfl HSS ?_
  go_simp
  refine tu 46 rfl HSS ?_
  go_simp
  refine tu 47 rfl HSS ?_
  go_simp
  refine tu 48 rfl HSS ?_
  go_simp
  refine tu 49 rfl HSS ?_
  go_simp
  refine tu 50 rfl HSS ?_
  go_simp
  refine tu 51 rfl HSS ?_
  go_simp
  refine tu 52 rfl HSS ?_
  go_simp
  refine tu 53 rfl HSS ?_
  go_simp
  refine tk 54 (.bool true) rfl HSS ?_
  go_simp
  refine wpAnyH_done (by kernel_rfl) ?_ _
  exact HI.out _ _ _ _ _ _ _ _ _ _ _ _ _ _ _ _ _ _ _ _ _ _ _ _ _ _ _ _ _ _ _ _ _ _ _ _ _ _ _ _ _ _ _ _ _ _ _ _ _ _ _ _ _ _ _ _ ⟨by rw [HR.out], (Below.refl w5.heap.size w5).drew⟩

set_option maxRecDepth 1000000 in
set_option maxHeartbeats 8000000 in
theorem leafB6 (op n : Int) (name src f : ByteArray) (Ac Ae Ab Al : Option Addr) (nc cc ne ce nb cb nl cl : Nat) (w w5 : World)
    (oknf : okS f) (hx5 : IsBlk w5 w.heap.size 52 #[.int .i64 op, .string name, .string src, .int .i64 n, .slice Ac nc cc, .slice Ae ne ce, .slice Ab nb cb, .slice Al nl cl]) (j3 : inB f 99 = hC op) (j4 : inB f 78 = hM op) (j5 : inB f 98 = hB op) (j6 : inB f 101 = hE op) (hc : hC op = true) (hm : hM op = false) (hb : hB op = false) (he : hE op = false) (hc0 : 0 < nc) (hc8 : 8 < nc) :
    SigB op n f nc nb nl w w5 := by
  unfold SigB
  intros
  rename_i hI
  conv => arg 2; whnf
  have HI := Lib.hid hI
  clear hI
  have HR : Hid (tB op n nc nb nl = true) := Lib.hid (by unfold tB; rw [hc, hm, hb, he]; simp; omega)
  rw [hc] at j3
  have HC := Lib.hid (fun W => in_at f 99 99 _ oknf rfl j3 W)
  rw [hm] at j4
  have HM := Lib.hid (fun W => in_at f 78 78 _ oknf rfl j4 W)
  rw [hb] at j5
  have HBb := Lib.hid (fun W => in_at f 98 98 _ oknf rfl j5 W)
  rw [he] at j6
  have HEe := Lib.hid (fun W => in_at f 101 101 _ oknf rfl j6 W)
  clear j3 j4 j5 j6 hc hm hb he oknf
  obtain ⟨z0, z1, z2, z3, z4, z5, z6, z7, zl⟩ := stBox' hx5
  clear hx5
  have d0 : decide ((0 : Int) < (nc : Int)) = true := by simp; omega
  have d8 : decide ((8 : Int) < (nc : Int)) = true := by simp; omega
  have HSS : (fun W => W.cell? ⟨w.heap.size, 3, none⟩ = some (.int .i64 n) ∧ W.cell? ⟨w.heap.size, 4, none⟩ = some (.slice Ac nc cc) ∧ W.cell? ⟨w.heap.size, 6, none⟩ = some (.slice Ab nb cb) ∧ W.cell? ⟨w.heap.size, 7, none⟩ = some (.slice Al nl cl)) w5.drew := ⟨z3, z4, z6, z7⟩
  refine wp_region_held (S := (fun W => W.cell? ⟨w.heap.size, 3, none⟩ = some (.int .i64 n) ∧ W.cell? ⟨w.heap.size, 4, none⟩ = some (.slice Ac nc cc) ∧ W.cell? ⟨w.heap.size, 6, none⟩ = some (.slice Ab nb cb) ∧ W.cell? ⟨w.heap.size, 7, none⟩ = some (.slice Al nl cl))) (by kernel_rfl) ?_
  change wpAnyH _ _ _ _ _ _ _ _ (World.drew _)
  refine tk 0 (.string f) rfl HSS ?_
  go_simp
  refine tk 2 (.pointer (some ⟨w.heap.size, 4, none⟩)) rfl HSS ?_
  go_simp
  refine tk 3 (.slice Ac nc cc) rfl HSS ?_
  go_simp
  refine tk 4 (.int .i64 (nc : Int)) rfl HSS ?_
  go_simp
  refine tk 5 (.bool true) rfl HSS ?_
  go_simp
  refine wpAnyH_ready (rs := [1]) (by kernel_rfl) (by simp) ?_
  refine AllReadyH.cons rfl (fun K hK => ?_) AllReadyH.nil
  go_simp
  refine (HC.out _).mono ?_
  rintro e w' ⟨rfl, rfl⟩
  go_simp
  refine hK.out _ _ HSS (fun _ => ?_); clear hK K
  refine tk 6 (.bool false) rfl HSS ?_
  go_simp
  refine tk 7 (.bool false) rfl HSS ?_
  go_simp
  refine tk 8 (.pointer (some ⟨w.heap.size, 4, none⟩)) rfl HSS ?_
  go_simp
  refine tk 9 (.slice Ac nc cc) rfl HSS ?_
  go_simp
  refine tk 10 (.int .i64 (nc : Int)) rfl HSS ?_
  go_simp
  refine tk 11 (.bool true) rfl HSS ?_
  go_simp
  refine tk 12 (.bool true) rfl HSS ?_
  go_simp
  refine tk 13 (.bool true) rfl HSS ?_
  go_simp
  refine tu 14 rfl HSS ?_
  go_simp
  refine tu 15 rfl HSS ?_
  go_simp
  refine tu 16 rfl HSS ?_
  go_simp
  refine tu 17 rfl HSS ?_
  go_simp
  refine tu 18 rfl HSS ?_
  go_simp
  refine tu 19 rfl HSS ?_
  go_simp
  refine tu 20 rfl HSS ?_
  go_simp
  refine tu 21 rfl HSS ?_
  go_simp
  refine tk 22 (.bool true) rfl HSS ?_
  go_simp
  refine tk 23 (.bool true) rfl HSS ?_
  go_simp
  refine tu 24 rfl HSS ?_
  go_simp
  refine tu 25 rfl HSS ?_
  go_simp
  refine tu 26 rfl HSS ?_
  go_simp
  refine tk 27 (.bool true) rfl HSS ?_
  go_simp
  refine tk 28 (.bool true) rfl HSS ?_
  go_simp
  refine tu 29 rfl HSS ?_
  go_simp
  refine tu 30 rfl HSS ?_
  go_simp
  refine tu 31 rfl HSS ?_
  go_simp
  refine tk 32 (.bool true) rfl HSS ?_
  go_simp
  refine tk 33 (.bool true) rfl HSS ?_
  go_simp
  refine tu 34 rfl HSS ?_
  go_simp
  refine tu 35 rfl HSS ?_
  go_simp
  refine tu 36 rfl HSS ?_
  go_simp
  refine tu 37 rfl HSS ?_
  go_simp
  refine tu 38 rfl HSS ?_
  go_simp
  refine tu 39 rfl HSS ?_
  go_simp
  refine tu 40 rfl HSS ?_
  go_simp
  refine tu 41 rfl HSS ?_
  go_simp
  refine tu 42 rfl HSS ?_
  go_simp
  refine tk 43 (.bool true) rfl HSS ?_
  go_simp
  refine tk 44 (.bool true) rfl HSS ?_
  go_simp
  refine tu 45 rfl HSS ?_
  go_simp
  refine tu 46 rfl HSS ?_
  go_simp
  refine tu 47 rfl HSS ?_
  go_simp
  refine tu 48 rfl HSS ?_
  go_simp
  refine tu 49 rfl HSS ?_
  go_simp
  refine tu 50 rfl HSS ?_
  go_simp
  refine tu 51 rfl HSS ?_
  go_simp
  refine tu 52 rfl HSS ?_
  go_simp
  refine tu 53 rfl HSS ?_
  go_simp
  refine tk 54 (.bool true) rfl HSS ?_
  go_simp
  refine wpAnyH_done (by kernel_rfl) ?_ _
  exact HI.out _ _ _ _ _ _ _ _ _ _ _ _ _ _ _ _ _ _ _ _ _ _ _ _ _ _ _ _ _ _ _ _ _ _ _ _ _ _ _ _ _ _ _ _ _ _ _ _ _ _ _ _ _ _ _ _ ⟨by rw [HR.out], (Below.refl w5.heap.size w5).drew⟩
end Go.Proofs.Ytgihhkfppnhdpaa
