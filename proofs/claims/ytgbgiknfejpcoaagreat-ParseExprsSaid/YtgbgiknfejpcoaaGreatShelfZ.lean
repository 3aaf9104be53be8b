/-
  DERIVED: THE SHELF's CONTRACTS AT THIS DUMP, IN PLAIN WORDS (tools/lay-plain.mjs out of 'YtgbgiknfejpcoaaGreatZzShelfZ.lean', which tools/lay-shelf.mjs wrote): THE SAME DECLARATIONS UNDER THE SAME NAMES: 'import', 'namespace', 'open', 'def', 'theorem' AND NOTHING ELSE: no command of the shelf's: FOR A HAND-IN. Each laying: the table of numbers ('.._ren') and one theorem, a field a fact of the dump's own or the kernel's comparison; each contract: ONE APPLICATION.
-/
import Derived.Shelf.SlGeneric
import Derived.Ground.GgzProg
import Derived.Shelf.SlIter.Nil
import Derived.Test.YtgbgiknfejpcoaaGreatProg
namespace Go.Proofs
open Go.Shelf
def Tryz.keysZ_ren : Go.Shelf.Ren := ⟨fun | 7 => 98 | 10 => 151 | n => n, fun | 23 => 179 | 26 => 9 | 3 => 4 | 28 => 177 | 0 => 0 | 27 => 176 | 33 => 66 | 4 => 4 | n => n, fun | n => n⟩
theorem Tryz.keysZ : Go.Proofs.SlLaysZ.n7 Tryz.prog Tryz.keysZ_ren := {
  mixed := by kernel_rfl
  f7 := ⟨Tryz.f98.name, by decide, Tryz.func98.trans (congrArg some (by kernel_rfl))⟩
  f10 := ⟨Tryz.f151.name, by decide, Tryz.func151.trans (congrArg some (by kernel_rfl))⟩
  t0 := Tryz.underlying0
  a0 := Tryz.isAgg0
  z0 := Tryz.sizeOf0
  v0 := Tryz.zeroValue0
  t4 := Tryz.underlying4
  a4 := Tryz.isAgg4
  z4 := Tryz.sizeOf4
  v4 := Tryz.zeroValue4
  t23 := Tryz.underlying179
  a23 := Tryz.isAgg179
  z23 := Tryz.sizeOf179
  v23 := Tryz.zeroValue179
  t26 := Tryz.underlying9
  a26 := Tryz.isAgg9
  z26 := Tryz.sizeOf9
  v26 := Tryz.zeroValue9
  t27 := Tryz.underlying176
  a27 := Tryz.isAgg176
  z27 := Tryz.sizeOf176
  v27 := Tryz.zeroValue176
  t28 := Tryz.underlying177
  a28 := Tryz.isAgg177
  z28 := Tryz.sizeOf177
  v28 := Tryz.zeroValue177
  t33 := Tryz.underlying66
  a33 := Tryz.isAgg66
  z33 := Tryz.sizeOf66
  v33 := Tryz.zeroValue66 }
def Tryz.sortedZ_ren : Go.Shelf.Ren := ⟨fun | 6 => 97 | 8 => 149 | 9 => 150 | 11 => 183 | 13 => 185 | 12 => 184 | 23 => 212 | 24 => 213 | 14 => 203 | 15 => 204 | 16 => 205 | 17 => 206 | 18 => 207 | 19 => 208 | 20 => 209 | 21 => 210 | 22 => 211 | 25 => 225 | 26 => 226 | 27 => 227 | 28 => 228 | 29 => 229 | 30 => 230 | 31 => 234 | n => n, fun | 26 => 9 | 28 => 177 | 24 => 53 | 0 => 0 | 3 => 3 | 37 => 71 | 48 => 269 | 50 => 229 | 4 => 4 | 40 => 263 | 39 => 262 | 45 => 207 | 5 => 5 | 9 => 9 | 51 => 276 | 55 => 280 | 57 => 282 | 58 => 74 | 33 => 66 | n => n, fun | n => n⟩
theorem Tryz.sortedZ : Go.Proofs.SlLaysZ.n6 Tryz.prog Tryz.sortedZ_ren := {
  mixed := by kernel_rfl
  f6 := ⟨Tryz.f97.name, by decide, Tryz.func97.trans (congrArg some (by kernel_rfl))⟩
  f8 := ⟨Tryz.f149.name, by decide, Tryz.func149.trans (congrArg some (by kernel_rfl))⟩
  f11 := ⟨Tryz.f183.name, by decide, Tryz.func183.trans (congrArg some (by kernel_rfl))⟩
  t0 := Tryz.underlying0
  a0 := Tryz.isAgg0
  z0 := Tryz.sizeOf0
  v0 := Tryz.zeroValue0
  t24 := Tryz.underlying53
  a24 := Tryz.isAgg53
  z24 := Tryz.sizeOf53
  v24 := Tryz.zeroValue53
  t26 := Tryz.underlying9
  a26 := Tryz.isAgg9
  z26 := Tryz.sizeOf9
  v26 := Tryz.zeroValue9
  t28 := Tryz.underlying177
  a28 := Tryz.isAgg177
  z28 := Tryz.sizeOf177
  v28 := Tryz.zeroValue177
  i26 := by kernel_rfl }
end Go.Proofs
