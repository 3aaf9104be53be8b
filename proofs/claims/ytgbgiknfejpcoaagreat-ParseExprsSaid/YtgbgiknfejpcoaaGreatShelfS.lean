/-
  DERIVED: THE SHELF's CONTRACTS AT THIS DUMP, IN PLAIN WORDS (tools/lay-plain.mjs out of 'YtgbgiknfejpcoaaGreatZzShelfS.lean', which tools/lay-shelf.mjs wrote): THE SAME DECLARATIONS UNDER THE SAME NAMES: 'import', 'namespace', 'open', 'def', 'theorem' AND NOTHING ELSE: no command of the shelf's: FOR A HAND-IN. Each laying: the table of numbers ('.._ren') and one theorem, a field a fact of the dump's own or the kernel's comparison; each contract: ONE APPLICATION.
-/
import Derived.Shelf.SlGeneric
import Derived.Ground.SlgmProg
import Derived.Ground.SlgnProg
import Derived.Shelf.SortM.Plain
import Derived.Shelf.SortM.SortNone
import Derived.Shelf.SlicesG.CompactS
import Derived.Test.YtgbgiknfejpcoaaGreatProg
namespace Go.Proofs
open Go.Shelf
def Tryz.sortS_ren : Go.Shelf.Ren := ⟨fun | 6 => 150 | 8 => 185 | 9 => 184 | 19 => 212 | 20 => 213 | 21 => 203 | 22 => 204 | 23 => 205 | 24 => 206 | 25 => 207 | 26 => 208 | 27 => 209 | 28 => 210 | 29 => 211 | 36 => 225 | 31 => 226 | 32 => 227 | 37 => 228 | 38 => 229 | 39 => 230 | 41 => 234 | n => n, fun | 27 => 53 | 29 => 9 | 3 => 3 | 32 => 71 | 26 => 53 | 0 => 0 | 44 => 269 | 46 => 229 | 4 => 4 | 36 => 263 | 35 => 262 | 41 => 207 | 5 => 5 | 9 => 9 | 53 => 276 | 57 => 280 | 63 => 282 | 64 => 74 | n => n, fun | n => n⟩
theorem Tryz.sortS : Go.Proofs.SlLaysM.n6 Tryz.prog Tryz.sortS_ren := {
  mixed := by kernel_rfl
  f6 := ⟨Tryz.f150.name, by decide, Tryz.func150.trans (congrArg some (by kernel_rfl))⟩
  f8 := Tryz.func185.trans (congrArg some (by kernel_rfl))
  f9 := ⟨Tryz.f184.name, by decide, Tryz.func184.trans (congrArg some (by kernel_rfl))⟩
  f19 := Tryz.func212.trans (congrArg some (by kernel_rfl))
  f20 := Tryz.func213.trans (congrArg some (by kernel_rfl))
  f21 := ⟨Tryz.f203.name, by decide, Tryz.func203.trans (congrArg some (by kernel_rfl))⟩
  f22 := ⟨Tryz.f204.name, by decide, Tryz.func204.trans (congrArg some (by kernel_rfl))⟩
  f23 := ⟨Tryz.f205.name, by decide, Tryz.func205.trans (congrArg some (by kernel_rfl))⟩
  f24 := ⟨Tryz.f206.name, by decide, Tryz.func206.trans (congrArg some (by kernel_rfl))⟩
  f25 := ⟨Tryz.f207.name, by decide, Tryz.func207.trans (congrArg some (by kernel_rfl))⟩
  f26 := ⟨Tryz.f208.name, by decide, Tryz.func208.trans (congrArg some (by kernel_rfl))⟩
  f27 := ⟨Tryz.f209.name, by decide, Tryz.func209.trans (congrArg some (by kernel_rfl))⟩
  f28 := ⟨Tryz.f210.name, by decide, Tryz.func210.trans (congrArg some (by kernel_rfl))⟩
  f29 := ⟨Tryz.f211.name, by decide, Tryz.func211.trans (congrArg some (by kernel_rfl))⟩
  f31 := Tryz.func226.trans (congrArg some (by kernel_rfl))
  f32 := Tryz.func227.trans (congrArg some (by kernel_rfl))
  f36 := ⟨Tryz.f225.name, by decide, Tryz.func225.trans (congrArg some (by kernel_rfl))⟩
  f37 := ⟨Tryz.f228.name, by decide, Tryz.func228.trans (congrArg some (by kernel_rfl))⟩
  f38 := ⟨Tryz.f229.name, by decide, Tryz.func229.trans (congrArg some (by kernel_rfl))⟩
  f39 := ⟨Tryz.f230.name, by decide, Tryz.func230.trans (congrArg some (by kernel_rfl))⟩
  f41 := ⟨Tryz.f234.name, by decide, Tryz.func234.trans (congrArg some (by kernel_rfl))⟩
  t0 := Tryz.underlying0
  a0 := Tryz.isAgg0
  z0 := Tryz.sizeOf0
  v0 := Tryz.zeroValue0
  t3 := Tryz.underlying3
  a3 := Tryz.isAgg3
  z3 := Tryz.sizeOf3
  v3 := Tryz.zeroValue3
  t4 := Tryz.underlying4
  a4 := Tryz.isAgg4
  z4 := Tryz.sizeOf4
  v4 := Tryz.zeroValue4
  t5 := Tryz.underlying5
  a5 := Tryz.isAgg5
  z5 := Tryz.sizeOf5
  v5 := Tryz.zeroValue5
  t9 := Tryz.underlying9
  a9 := Tryz.isAgg9
  z9 := Tryz.sizeOf9
  v9 := Tryz.zeroValue9
  t26 := Tryz.underlying53
  a26 := Tryz.isAgg53
  z26 := Tryz.sizeOf53
  v26 := Tryz.zeroValue53
  t27 := Tryz.underlying53
  a27 := Tryz.isAgg53
  z27 := Tryz.sizeOf53
  v27 := Tryz.zeroValue53
  t29 := Tryz.underlying9
  a29 := Tryz.isAgg9
  z29 := Tryz.sizeOf9
  v29 := Tryz.zeroValue9
  t32 := Tryz.underlying71
  a32 := Tryz.isAgg71
  z32 := Tryz.sizeOf71
  v32 := Tryz.zeroValue71
  t35 := Tryz.underlying262
  a35 := Tryz.isAgg262
  z35 := Tryz.sizeOf262
  v35 := Tryz.zeroValue262
  t36 := Tryz.underlying263
  a36 := Tryz.isAgg263
  z36 := Tryz.sizeOf263
  v36 := Tryz.zeroValue263
  t41 := Tryz.underlying207
  a41 := Tryz.isAgg207
  z41 := Tryz.sizeOf207
  v41 := Tryz.zeroValue207
  t44 := Tryz.underlying269
  a44 := Tryz.isAgg269
  z44 := Tryz.sizeOf269
  v44 := Tryz.zeroValue269
  t46 := Tryz.underlying229
  a46 := Tryz.isAgg229
  z46 := Tryz.sizeOf229
  v46 := Tryz.zeroValue229
  t53 := Tryz.underlying276
  a53 := Tryz.isAgg276
  z53 := Tryz.sizeOf276
  v53 := Tryz.zeroValue276
  t57 := Tryz.underlying280
  a57 := Tryz.isAgg280
  z57 := Tryz.sizeOf280
  v57 := Tryz.zeroValue280
  t63 := Tryz.underlying282
  a63 := Tryz.isAgg282
  z63 := Tryz.sizeOf282
  v63 := Tryz.zeroValue282
  t64 := Tryz.underlying74
  a64 := Tryz.isAgg74
  z64 := Tryz.sizeOf74
  v64 := Tryz.zeroValue74 }
def Tryz.compactS_ren : Go.Shelf.Ren := ⟨fun | 44 => 174 | n => n, fun | 25 => 53 | 26 => 9 | 3 => 3 | 4 => 4 | 0 => 0 | n => n, fun | n => n⟩
theorem Tryz.compactS : Go.Proofs.SlLaysN.n44 Tryz.prog Tryz.compactS_ren := {
  mixed := by kernel_rfl
  f44 := ⟨Tryz.f174.name, by decide, Tryz.func174.trans (congrArg some (by kernel_rfl))⟩
  t0 := Tryz.underlying0
  a0 := Tryz.isAgg0
  z0 := Tryz.sizeOf0
  v0 := Tryz.zeroValue0
  t3 := Tryz.underlying3
  a3 := Tryz.isAgg3
  z3 := Tryz.sizeOf3
  v3 := Tryz.zeroValue3
  t4 := Tryz.underlying4
  a4 := Tryz.isAgg4
  z4 := Tryz.sizeOf4
  v4 := Tryz.zeroValue4
  t25 := Tryz.underlying53
  a25 := Tryz.isAgg53
  z25 := Tryz.sizeOf53
  v25 := Tryz.zeroValue53
  t26 := Tryz.underlying9
  a26 := Tryz.isAgg9
  z26 := Tryz.sizeOf9
  v26 := Tryz.zeroValue9
  i26 := by kernel_rfl }
end Go.Proofs
