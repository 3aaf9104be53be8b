/-
  DERIVED: THE SHELF's CONTRACTS AT THIS DUMP, IN PLAIN WORDS (tools/lay-plain.mjs out of 'YtjjfkhbajidmdaaGreatDoorZzShelfS.lean', which tools/lay-shelf.mjs wrote): THE SAME DECLARATIONS UNDER THE SAME NAMES: 'import', 'namespace', 'open', 'def', 'theorem' AND NOTHING ELSE: no command of the shelf's: FOR A HAND-IN. Each laying: the table of numbers ('.._ren') and one theorem, a field a fact of the dump's own or the kernel's comparison; each contract: ONE APPLICATION.
-/
import Derived.Shelf.SlGeneric
import Derived.Ground.SlgmProg
import Derived.Ground.SlgnProg
import Derived.Shelf.SortM.Plain
import Derived.Shelf.SortM.SortNone
import Derived.Shelf.SlicesG.CompactS
import Derived.Test.YtjjfkhbajidmdaaGreatDoorProg
namespace Go.Proofs
open Go.Shelf
def Tryz.sortS_ren : Go.Shelf.Ren := ⟨fun | 6 => 134 | 8 => 160 | 9 => 159 | 19 => 183 | 20 => 184 | 21 => 174 | 22 => 175 | 23 => 176 | 24 => 177 | 25 => 178 | 26 => 179 | 27 => 180 | 28 => 181 | 29 => 182 | 36 => 187 | 31 => 188 | 32 => 189 | 37 => 190 | 38 => 191 | 39 => 192 | 41 => 194 | n => n, fun | 27 => 47 | 29 => 9 | 3 => 3 | 32 => 46 | 26 => 47 | 0 => 0 | 44 => 182 | 46 => 134 | 4 => 4 | 36 => 209 | 35 => 208 | 41 => 151 | 5 => 5 | 9 => 9 | 53 => 221 | 57 => 225 | 63 => 227 | 64 => 50 | n => n, fun | n => n⟩
theorem Tryz.sortS : Go.Proofs.SlLaysM.n6 Tryz.prog Tryz.sortS_ren := {
  mixed := by kernel_rfl
  f6 := ⟨Tryz.f134.name, by decide, Tryz.func134.trans (congrArg some (by kernel_rfl))⟩
  f8 := Tryz.func160.trans (congrArg some (by kernel_rfl))
  f9 := ⟨Tryz.f159.name, by decide, Tryz.func159.trans (congrArg some (by kernel_rfl))⟩
  f19 := Tryz.func183.trans (congrArg some (by kernel_rfl))
  f20 := Tryz.func184.trans (congrArg some (by kernel_rfl))
  f21 := ⟨Tryz.f174.name, by decide, Tryz.func174.trans (congrArg some (by kernel_rfl))⟩
  f22 := ⟨Tryz.f175.name, by decide, Tryz.func175.trans (congrArg some (by kernel_rfl))⟩
  f23 := ⟨Tryz.f176.name, by decide, Tryz.func176.trans (congrArg some (by kernel_rfl))⟩
  f24 := ⟨Tryz.f177.name, by decide, Tryz.func177.trans (congrArg some (by kernel_rfl))⟩
  f25 := ⟨Tryz.f178.name, by decide, Tryz.func178.trans (congrArg some (by kernel_rfl))⟩
  f26 := ⟨Tryz.f179.name, by decide, Tryz.func179.trans (congrArg some (by kernel_rfl))⟩
  f27 := ⟨Tryz.f180.name, by decide, Tryz.func180.trans (congrArg some (by kernel_rfl))⟩
  f28 := ⟨Tryz.f181.name, by decide, Tryz.func181.trans (congrArg some (by kernel_rfl))⟩
  f29 := ⟨Tryz.f182.name, by decide, Tryz.func182.trans (congrArg some (by kernel_rfl))⟩
  f31 := Tryz.func188.trans (congrArg some (by kernel_rfl))
  f32 := Tryz.func189.trans (congrArg some (by kernel_rfl))
  f36 := ⟨Tryz.f187.name, by decide, Tryz.func187.trans (congrArg some (by kernel_rfl))⟩
  f37 := ⟨Tryz.f190.name, by decide, Tryz.func190.trans (congrArg some (by kernel_rfl))⟩
  f38 := ⟨Tryz.f191.name, by decide, Tryz.func191.trans (congrArg some (by kernel_rfl))⟩
  f39 := ⟨Tryz.f192.name, by decide, Tryz.func192.trans (congrArg some (by kernel_rfl))⟩
  f41 := ⟨Tryz.f194.name, by decide, Tryz.func194.trans (congrArg some (by kernel_rfl))⟩
  t0 := Tryz.underlying0
  a0 := Tryz.isAgg0
  z0 := Tryz.sizeOf0
  v0 := Tryz.zeroValue0
  t3 := Tryz.underlying3
  a3 := Tryz.isAgg3
  z3 := Tryz.sizeOf3
  v3 := Tryz.zeroValue3
  t4 := Tryz.underlying4
  a4 := Tryz.isAgg4
  z4 := Tryz.sizeOf4
  v4 := Tryz.zeroValue4
  t5 := Tryz.underlying5
  a5 := Tryz.isAgg5
  z5 := Tryz.sizeOf5
  v5 := Tryz.zeroValue5
  t9 := Tryz.underlying9
  a9 := Tryz.isAgg9
  z9 := Tryz.sizeOf9
  v9 := Tryz.zeroValue9
  t26 := Tryz.underlying47
  a26 := Tryz.isAgg47
  z26 := Tryz.sizeOf47
  v26 := Tryz.zeroValue47
  t27 := Tryz.underlying47
  a27 := Tryz.isAgg47
  z27 := Tryz.sizeOf47
  v27 := Tryz.zeroValue47
  t29 := Tryz.underlying9
  a29 := Tryz.isAgg9
  z29 := Tryz.sizeOf9
  v29 := Tryz.zeroValue9
  t32 := Tryz.underlying46
  a32 := Tryz.isAgg46
  z32 := Tryz.sizeOf46
  v32 := Tryz.zeroValue46
  t35 := Tryz.underlying208
  a35 := Tryz.isAgg208
  z35 := Tryz.sizeOf208
  v35 := Tryz.zeroValue208
  t36 := Tryz.underlying209
  a36 := Tryz.isAgg209
  z36 := Tryz.sizeOf209
  v36 := Tryz.zeroValue209
  t41 := Tryz.underlying151
  a41 := Tryz.isAgg151
  z41 := Tryz.sizeOf151
  v41 := Tryz.zeroValue151
  t44 := Tryz.underlying182
  a44 := Tryz.isAgg182
  z44 := Tryz.sizeOf182
  v44 := Tryz.zeroValue182
  t46 := Tryz.underlying134
  a46 := Tryz.isAgg134
  z46 := Tryz.sizeOf134
  v46 := Tryz.zeroValue134
  t53 := Tryz.underlying221
  a53 := Tryz.isAgg221
  z53 := Tryz.sizeOf221
  v53 := Tryz.zeroValue221
  t57 := Tryz.underlying225
  a57 := Tryz.isAgg225
  z57 := Tryz.sizeOf225
  v57 := Tryz.zeroValue225
  t63 := Tryz.underlying227
  a63 := Tryz.isAgg227
  z63 := Tryz.sizeOf227
  v63 := Tryz.zeroValue227
  t64 := Tryz.underlying50
  a64 := Tryz.isAgg50
  z64 := Tryz.sizeOf50
  v64 := Tryz.zeroValue50 }
def Tryz.compactS_ren : Go.Shelf.Ren := ⟨fun | 44 => 104 | n => n, fun | 25 => 47 | 26 => 9 | 3 => 3 | 4 => 4 | 0 => 0 | n => n, fun | n => n⟩
theorem Tryz.compactS : Go.Proofs.SlLaysN.n44 Tryz.prog Tryz.compactS_ren := {
  mixed := by kernel_rfl
  f44 := ⟨Tryz.f104.name, by decide, Tryz.func104.trans (congrArg some (by kernel_rfl))⟩
  t0 := Tryz.underlying0
  a0 := Tryz.isAgg0
  z0 := Tryz.sizeOf0
  v0 := Tryz.zeroValue0
  t3 := Tryz.underlying3
  a3 := Tryz.isAgg3
  z3 := Tryz.sizeOf3
  v3 := Tryz.zeroValue3
  t4 := Tryz.underlying4
  a4 := Tryz.isAgg4
  z4 := Tryz.sizeOf4
  v4 := Tryz.zeroValue4
  t25 := Tryz.underlying47
  a25 := Tryz.isAgg47
  z25 := Tryz.sizeOf47
  v25 := Tryz.zeroValue47
  t26 := Tryz.underlying9
  a26 := Tryz.isAgg9
  z26 := Tryz.sizeOf9
  v26 := Tryz.zeroValue9
  i26 := by kernel_rfl }
end Go.Proofs
