/-
  DERIVED: THE SHELF's CONTRACTS AT THIS DUMP, IN PLAIN WORDS (tools/lay-plain.mjs out of 'YtmfcmpnlipnopaaGreatZzShelfZ.lean', which tools/lay-shelf.mjs wrote): THE SAME DECLARATIONS UNDER THE SAME NAMES: 'import', 'namespace', 'open', 'def', 'theorem' AND NOTHING ELSE: no command of the shelf's: FOR A HAND-IN. Each laying: the table of numbers ('.._ren') and one theorem, a field a fact of the dump's own or the kernel's comparison; each contract: ONE APPLICATION.
-/
import Derived.Shelf.SlGeneric
import Derived.Ground.GgzProg
import Derived.Shelf.SlIter.Nil
import Derived.Test.YtmfcmpnlipnopaaGreatProg
namespace Go.Proofs
open Go.Shelf
def Tryz.keysZ_ren : Go.Shelf.Ren := ⟨fun | 7 => 69 | 10 => 101 | n => n, fun | 23 => 148 | 26 => 9 | 3 => 4 | 28 => 146 | 0 => 0 | 27 => 145 | 33 => 95 | 4 => 4 | n => n, fun | n => n⟩
theorem Tryz.keysZ : Go.Proofs.SlLaysZ.n7 Tryz.prog Tryz.keysZ_ren := {
  mixed := by kernel_rfl
  f7 := ⟨Tryz.f69.name, by decide, Tryz.func69.trans (congrArg some (by kernel_rfl))⟩
  f10 := ⟨Tryz.f101.name, by decide, Tryz.func101.trans (congrArg some (by kernel_rfl))⟩
  t0 := Tryz.underlying0
  a0 := Tryz.isAgg0
  z0 := Tryz.sizeOf0
  v0 := Tryz.zeroValue0
  t4 := Tryz.underlying4
  a4 := Tryz.isAgg4
  z4 := Tryz.sizeOf4
  v4 := Tryz.zeroValue4
  t23 := Tryz.underlying148
  a23 := Tryz.isAgg148
  z23 := Tryz.sizeOf148
  v23 := Tryz.zeroValue148
  t26 := Tryz.underlying9
  a26 := Tryz.isAgg9
  z26 := Tryz.sizeOf9
  v26 := Tryz.zeroValue9
  t27 := Tryz.underlying145
  a27 := Tryz.isAgg145
  z27 := Tryz.sizeOf145
  v27 := Tryz.zeroValue145
  t28 := Tryz.underlying146
  a28 := Tryz.isAgg146
  z28 := Tryz.sizeOf146
  v28 := Tryz.zeroValue146
  t33 := Tryz.underlying95
  a33 := Tryz.isAgg95
  z33 := Tryz.sizeOf95
  v33 := Tryz.zeroValue95 }
def Tryz.sortedZ_ren : Go.Shelf.Ren := ⟨fun | 6 => 68 | 8 => 99 | 9 => 100 | 11 => 123 | 13 => 125 | 12 => 124 | 23 => 151 | 24 => 152 | 14 => 142 | 15 => 143 | 16 => 144 | 17 => 145 | 18 => 146 | 19 => 147 | 20 => 148 | 21 => 149 | 22 => 150 | 25 => 155 | 26 => 156 | 27 => 157 | 28 => 158 | 29 => 159 | 30 => 160 | 31 => 161 | n => n, fun | 26 => 9 | 28 => 146 | 24 => 53 | 0 => 0 | 3 => 3 | 37 => 63 | 48 => 222 | 50 => 184 | 4 => 4 | 40 => 215 | 39 => 214 | 45 => 209 | 5 => 5 | 9 => 9 | 51 => 224 | 55 => 228 | 57 => 230 | 58 => 66 | 33 => 95 | n => n, fun | n => n⟩
theorem Tryz.sortedZ : Go.Proofs.SlLaysZ.n6 Tryz.prog Tryz.sortedZ_ren := {
  mixed := by kernel_rfl
  f6 := ⟨Tryz.f68.name, by decide, Tryz.func68.trans (congrArg some (by kernel_rfl))⟩
  f8 := ⟨Tryz.f99.name, by decide, Tryz.func99.trans (congrArg some (by kernel_rfl))⟩
  f11 := ⟨Tryz.f123.name, by decide, Tryz.func123.trans (congrArg some (by kernel_rfl))⟩
  t0 := Tryz.underlying0
  a0 := Tryz.isAgg0
  z0 := Tryz.sizeOf0
  v0 := Tryz.zeroValue0
  t24 := Tryz.underlying53
  a24 := Tryz.isAgg53
  z24 := Tryz.sizeOf53
  v24 := Tryz.zeroValue53
  t26 := Tryz.underlying9
  a26 := Tryz.isAgg9
  z26 := Tryz.sizeOf9
  v26 := Tryz.zeroValue9
  t28 := Tryz.underlying146
  a28 := Tryz.isAgg146
  z28 := Tryz.sizeOf146
  v28 := Tryz.zeroValue146
  i26 := by kernel_rfl }
end Go.Proofs
