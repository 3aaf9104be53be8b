/-
  DERIVED: THE SHELF's CONTRACTS AT THIS DUMP, IN PLAIN WORDS (tools/lay-plain.mjs out of 'YtgihhkfppnhdpaaZzShelfZ.lean', which tools/lay-shelf.mjs wrote): THE SAME DECLARATIONS UNDER THE SAME NAMES: 'import', 'namespace', 'open', 'def', 'theorem' AND NOTHING ELSE: no command of the shelf's: FOR A HAND-IN. Each laying: the table of numbers ('.._ren') and one theorem, a field a fact of the dump's own or the kernel's comparison; each contract: ONE APPLICATION.
-/
import Derived.Shelf.SlGeneric
import Derived.Ground.GgzProg
import Derived.Shelf.SlIter.Nil
import Derived.Test.YtgihhkfppnhdpaaProg
namespace Go.Proofs
open Go.Shelf
def Try.keysZ_ren : Go.Shelf.Ren := ⟨fun | 7 => 34 | 10 => 52 | n => n, fun | 23 => 71 | 26 => 9 | 3 => 4 | 28 => 69 | 0 => 0 | 27 => 68 | 33 => 23 | 4 => 4 | n => n, fun | n => n⟩
theorem Try.keysZ : Go.Proofs.SlLaysZ.n7 Try.prog Try.keysZ_ren := {
  mixed := by kernel_rfl
  f7 := ⟨Try.f34.name, by decide, Try.func34.trans (congrArg some (by kernel_rfl))⟩
  f10 := ⟨Try.f52.name, by decide, Try.func52.trans (congrArg some (by kernel_rfl))⟩
  t0 := Try.underlying0
  a0 := Try.isAgg0
  z0 := Try.sizeOf0
  v0 := Try.zeroValue0
  t4 := Try.underlying4
  a4 := Try.isAgg4
  z4 := Try.sizeOf4
  v4 := Try.zeroValue4
  t23 := Try.underlying71
  a23 := Try.isAgg71
  z23 := Try.sizeOf71
  v23 := Try.zeroValue71
  t26 := Try.underlying9
  a26 := Try.isAgg9
  z26 := Try.sizeOf9
  v26 := Try.zeroValue9
  t27 := Try.underlying68
  a27 := Try.isAgg68
  z27 := Try.sizeOf68
  v27 := Try.zeroValue68
  t28 := Try.underlying69
  a28 := Try.isAgg69
  z28 := Try.sizeOf69
  v28 := Try.zeroValue69
  t33 := Try.underlying23
  a33 := Try.isAgg23
  z33 := Try.sizeOf23
  v33 := Try.zeroValue23 }
def Try.sortedZ_ren : Go.Shelf.Ren := ⟨fun | 6 => 33 | 8 => 50 | 9 => 51 | 11 => 63 | 13 => 65 | 12 => 64 | 23 => 84 | 24 => 85 | 14 => 75 | 15 => 76 | 16 => 77 | 17 => 78 | 18 => 79 | 19 => 80 | 20 => 81 | 21 => 82 | 22 => 83 | 25 => 92 | 26 => 93 | 27 => 94 | 28 => 95 | 29 => 96 | 30 => 97 | 31 => 98 | n => n, fun | 26 => 9 | 28 => 69 | 24 => 40 | 0 => 0 | 3 => 3 | 37 => 37 | 48 => 118 | 50 => 120 | 4 => 4 | 40 => 111 | 39 => 110 | 45 => 115 | 5 => 5 | 9 => 9 | 51 => 124 | 55 => 128 | 57 => 130 | 58 => 38 | 33 => 23 | n => n, fun | n => n⟩
theorem Try.sortedZ : Go.Proofs.SlLaysZ.n6 Try.prog Try.sortedZ_ren := {
  mixed := by kernel_rfl
  f6 := ⟨Try.f33.name, by decide, Try.func33.trans (congrArg some (by kernel_rfl))⟩
  f8 := ⟨Try.f50.name, by decide, Try.func50.trans (congrArg some (by kernel_rfl))⟩
  f11 := ⟨Try.f63.name, by decide, Try.func63.trans (congrArg some (by kernel_rfl))⟩
  t0 := Try.underlying0
  a0 := Try.isAgg0
  z0 := Try.sizeOf0
  v0 := Try.zeroValue0
  t24 := Try.underlying40
  a24 := Try.isAgg40
  z24 := Try.sizeOf40
  v24 := Try.zeroValue40
  t26 := Try.underlying9
  a26 := Try.isAgg9
  z26 := Try.sizeOf9
  v26 := Try.zeroValue9
  t28 := Try.underlying69
  a28 := Try.isAgg69
  z28 := Try.sizeOf69
  v28 := Try.zeroValue69
  i26 := by kernel_rfl }
end Go.Proofs
