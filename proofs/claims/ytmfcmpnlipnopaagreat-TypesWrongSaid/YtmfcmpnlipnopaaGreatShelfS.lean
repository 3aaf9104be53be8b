/-
  DERIVED: THE SHELF's CONTRACTS AT THIS DUMP, IN PLAIN WORDS (tools/lay-plain.mjs out of 'YtmfcmpnlipnopaaGreatZzShelfS.lean', which tools/lay-shelf.mjs wrote): THE SAME DECLARATIONS UNDER THE SAME NAMES: 'import', 'namespace', 'open', 'def', 'theorem' AND NOTHING ELSE: no command of the shelf's: FOR A HAND-IN. Each laying: the table of numbers ('.._ren') and one theorem, a field a fact of the dump's own or the kernel's comparison; each contract: ONE APPLICATION.
-/
import Derived.Shelf.SlGeneric
import Derived.Ground.SlgmProg
import Derived.Ground.SlgnProg
import Derived.Shelf.SortM.Plain
import Derived.Shelf.SortM.SortNone
import Derived.Shelf.SlicesG.CompactS
import Derived.Test.YtmfcmpnlipnopaaGreatProg
namespace Go.Proofs
open Go.Shelf
def Tryz.sortS_ren : Go.Shelf.Ren := ⟨fun | 6 => 100 | 8 => 125 | 9 => 124 | 19 => 151 | 20 => 152 | 21 => 142 | 22 => 143 | 23 => 144 | 24 => 145 | 25 => 146 | 26 => 147 | 27 => 148 | 28 => 149 | 29 => 150 | 36 => 155 | 31 => 156 | 32 => 157 | 37 => 158 | 38 => 159 | 39 => 160 | 41 => 161 | n => n, fun | 27 => 53 | 29 => 9 | 3 => 3 | 32 => 63 | 26 => 53 | 0 => 0 | 44 => 222 | 46 => 184 | 4 => 4 | 36 => 215 | 35 => 214 | 41 => 209 | 5 => 5 | 9 => 9 | 53 => 224 | 57 => 228 | 63 => 230 | 64 => 66 | n => n, fun | n => n⟩
theorem Tryz.sortS : Go.Proofs.SlLaysM.n6 Tryz.prog Tryz.sortS_ren := {
  mixed := by kernel_rfl
  f6 := ⟨Tryz.f100.name, by decide, Tryz.func100.trans (congrArg some (by kernel_rfl))⟩
  f8 := Tryz.func125.trans (congrArg some (by kernel_rfl))
  f9 := ⟨Tryz.f124.name, by decide, Tryz.func124.trans (congrArg some (by kernel_rfl))⟩
  f19 := Tryz.func151.trans (congrArg some (by kernel_rfl))
  f20 := Tryz.func152.trans (congrArg some (by kernel_rfl))
  f21 := ⟨Tryz.f142.name, by decide, Tryz.func142.trans (congrArg some (by kernel_rfl))⟩
  f22 := ⟨Tryz.f143.name, by decide, Tryz.func143.trans (congrArg some (by kernel_rfl))⟩
  f23 := ⟨Tryz.f144.name, by decide, Tryz.func144.trans (congrArg some (by kernel_rfl))⟩
  f24 := ⟨Tryz.f145.name, by decide, Tryz.func145.trans (congrArg some (by kernel_rfl))⟩
  f25 := ⟨Tryz.f146.name, by decide, Tryz.func146.trans (congrArg some (by kernel_rfl))⟩
  f26 := ⟨Tryz.f147.name, by decide, Tryz.func147.trans (congrArg some (by kernel_rfl))⟩
  f27 := ⟨Tryz.f148.name, by decide, Tryz.func148.trans (congrArg some (by kernel_rfl))⟩
  f28 := ⟨Tryz.f149.name, by decide, Tryz.func149.trans (congrArg some (by kernel_rfl))⟩
  f29 := ⟨Tryz.f150.name, by decide, Tryz.func150.trans (congrArg some (by kernel_rfl))⟩
  f31 := Tryz.func156.trans (congrArg some (by kernel_rfl))
  f32 := Tryz.func157.trans (congrArg some (by kernel_rfl))
  f36 := ⟨Tryz.f155.name, by decide, Tryz.func155.trans (congrArg some (by kernel_rfl))⟩
  f37 := ⟨Tryz.f158.name, by decide, Tryz.func158.trans (congrArg some (by kernel_rfl))⟩
  f38 := ⟨Tryz.f159.name, by decide, Tryz.func159.trans (congrArg some (by kernel_rfl))⟩
  f39 := ⟨Tryz.f160.name, by decide, Tryz.func160.trans (congrArg some (by kernel_rfl))⟩
  f41 := ⟨Tryz.f161.name, by decide, Tryz.func161.trans (congrArg some (by kernel_rfl))⟩
  t0 := Tryz.underlying0
  a0 := Tryz.isAgg0
  z0 := Tryz.sizeOf0
  v0 := Tryz.zeroValue0
  t3 := Tryz.underlying3
  a3 := Tryz.isAgg3
  z3 := Tryz.sizeOf3
  v3 := Tryz.zeroValue3
  t4 := Tryz.underlying4
  a4 := Tryz.isAgg4
  z4 := Tryz.sizeOf4
  v4 := Tryz.zeroValue4
  t5 := Tryz.underlying5
  a5 := Tryz.isAgg5
  z5 := Tryz.sizeOf5
  v5 := Tryz.zeroValue5
  t9 := Tryz.underlying9
  a9 := Tryz.isAgg9
  z9 := Tryz.sizeOf9
  v9 := Tryz.zeroValue9
  t26 := Tryz.underlying53
  a26 := Tryz.isAgg53
  z26 := Tryz.sizeOf53
  v26 := Tryz.zeroValue53
  t27 := Tryz.underlying53
  a27 := Tryz.isAgg53
  z27 := Tryz.sizeOf53
  v27 := Tryz.zeroValue53
  t29 := Tryz.underlying9
  a29 := Tryz.isAgg9
  z29 := Tryz.sizeOf9
  v29 := Tryz.zeroValue9
  t32 := Tryz.underlying63
  a32 := Tryz.isAgg63
  z32 := Tryz.sizeOf63
  v32 := Tryz.zeroValue63
  t35 := Tryz.underlying214
  a35 := Tryz.isAgg214
  z35 := Tryz.sizeOf214
  v35 := Tryz.zeroValue214
  t36 := Tryz.underlying215
  a36 := Tryz.isAgg215
  z36 := Tryz.sizeOf215
  v36 := Tryz.zeroValue215
  t41 := Tryz.underlying209
  a41 := Tryz.isAgg209
  z41 := Tryz.sizeOf209
  v41 := Tryz.zeroValue209
  t44 := Tryz.underlying222
  a44 := Tryz.isAgg222
  z44 := Tryz.sizeOf222
  v44 := Tryz.zeroValue222
  t46 := Tryz.underlying184
  a46 := Tryz.isAgg184
  z46 := Tryz.sizeOf184
  v46 := Tryz.zeroValue184
  t53 := Tryz.underlying224
  a53 := Tryz.isAgg224
  z53 := Tryz.sizeOf224
  v53 := Tryz.zeroValue224
  t57 := Tryz.underlying228
  a57 := Tryz.isAgg228
  z57 := Tryz.sizeOf228
  v57 := Tryz.zeroValue228
  t63 := Tryz.underlying230
  a63 := Tryz.isAgg230
  z63 := Tryz.sizeOf230
  v63 := Tryz.zeroValue230
  t64 := Tryz.underlying66
  a64 := Tryz.isAgg66
  z64 := Tryz.sizeOf66
  v64 := Tryz.zeroValue66 }
def Tryz.compactS_ren : Go.Shelf.Ren := ⟨fun | 44 => 112 | n => n, fun | 25 => 53 | 26 => 9 | 3 => 3 | 4 => 4 | 0 => 0 | n => n, fun | n => n⟩
theorem Tryz.compactS : Go.Proofs.SlLaysN.n44 Tryz.prog Tryz.compactS_ren := {
  mixed := by kernel_rfl
  f44 := ⟨Tryz.f112.name, by decide, Tryz.func112.trans (congrArg some (by kernel_rfl))⟩
  t0 := Tryz.underlying0
  a0 := Tryz.isAgg0
  z0 := Tryz.sizeOf0
  v0 := Tryz.zeroValue0
  t3 := Tryz.underlying3
  a3 := Tryz.isAgg3
  z3 := Tryz.sizeOf3
  v3 := Tryz.zeroValue3
  t4 := Tryz.underlying4
  a4 := Tryz.isAgg4
  z4 := Tryz.sizeOf4
  v4 := Tryz.zeroValue4
  t25 := Tryz.underlying53
  a25 := Tryz.isAgg53
  z25 := Tryz.sizeOf53
  v25 := Tryz.zeroValue53
  t26 := Tryz.underlying9
  a26 := Tryz.isAgg9
  z26 := Tryz.sizeOf9
  v26 := Tryz.zeroValue9
  i26 := by kernel_rfl }
end Go.Proofs
