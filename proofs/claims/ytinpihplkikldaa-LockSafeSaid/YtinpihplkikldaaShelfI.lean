/-
  DERIVED: THE SHELF's CONTRACTS AT THIS DUMP, IN PLAIN WORDS (tools/lay-plain.mjs out of 'YtinpihplkikldaaZzShelfI.lean', which tools/lay-shelf.mjs wrote): THE SAME DECLARATIONS UNDER THE SAME NAMES: 'import', 'namespace', 'open', 'def', 'theorem' AND NOTHING ELSE: no command of the shelf's: FOR A HAND-IN. Each laying: the table of numbers ('.._ren') and one theorem, a field a fact of the dump's own or the kernel's comparison; each contract: ONE APPLICATION.
-/
import Derived.Shelf.SlGeneric
import Derived.Ground.SlgmProg
import Derived.Shelf.SortM.Plain
import Derived.Shelf.SortM.SortNone
import Derived.Test.YtinpihplkikldaaProg
namespace Go.Proofs
open Go.Shelf
def Try.sortI_ren : Go.Shelf.Ren := ⟨fun | 5 => 67 | 8 => 97 | 7 => 96 | 19 => 127 | 20 => 128 | 10 => 118 | 11 => 119 | 12 => 120 | 13 => 121 | 14 => 122 | 15 => 123 | 16 => 124 | 17 => 125 | 18 => 126 | 30 => 145 | 31 => 146 | 32 => 147 | 33 => 148 | 34 => 149 | 35 => 150 | 40 => 155 | n => n, fun | 23 => 24 | 25 => 3 | 3 => 3 | 32 => 48 | 22 => 24 | 0 => 0 | 44 => 169 | 46 => 171 | 4 => 4 | 36 => 161 | 35 => 160 | 41 => 166 | 5 => 5 | 9 => 9 | 53 => 180 | 57 => 184 | 63 => 188 | 64 => 49 | n => n, fun | n => n⟩
theorem Try.sortI : Go.Proofs.SlLaysM.n5 Try.prog Try.sortI_ren := {
  mixed := by kernel_rfl
  f5 := ⟨Try.f67.name, by decide, Try.func67.trans (congrArg some (by kernel_rfl))⟩
  f7 := ⟨Try.f96.name, by decide, Try.func96.trans (congrArg some (by kernel_rfl))⟩
  f8 := Try.func97.trans (congrArg some (by kernel_rfl))
  f10 := ⟨Try.f118.name, by decide, Try.func118.trans (congrArg some (by kernel_rfl))⟩
  f11 := ⟨Try.f119.name, by decide, Try.func119.trans (congrArg some (by kernel_rfl))⟩
  f12 := ⟨Try.f120.name, by decide, Try.func120.trans (congrArg some (by kernel_rfl))⟩
  f13 := ⟨Try.f121.name, by decide, Try.func121.trans (congrArg some (by kernel_rfl))⟩
  f14 := ⟨Try.f122.name, by decide, Try.func122.trans (congrArg some (by kernel_rfl))⟩
  f15 := ⟨Try.f123.name, by decide, Try.func123.trans (congrArg some (by kernel_rfl))⟩
  f16 := ⟨Try.f124.name, by decide, Try.func124.trans (congrArg some (by kernel_rfl))⟩
  f17 := ⟨Try.f125.name, by decide, Try.func125.trans (congrArg some (by kernel_rfl))⟩
  f18 := ⟨Try.f126.name, by decide, Try.func126.trans (congrArg some (by kernel_rfl))⟩
  f19 := Try.func127.trans (congrArg some (by kernel_rfl))
  f20 := Try.func128.trans (congrArg some (by kernel_rfl))
  f30 := ⟨Try.f145.name, by decide, Try.func145.trans (congrArg some (by kernel_rfl))⟩
  f31 := Try.func146.trans (congrArg some (by kernel_rfl))
  f32 := Try.func147.trans (congrArg some (by kernel_rfl))
  f33 := ⟨Try.f148.name, by decide, Try.func148.trans (congrArg some (by kernel_rfl))⟩
  f34 := ⟨Try.f149.name, by decide, Try.func149.trans (congrArg some (by kernel_rfl))⟩
  f35 := ⟨Try.f150.name, by decide, Try.func150.trans (congrArg some (by kernel_rfl))⟩
  f40 := ⟨Try.f155.name, by decide, Try.func155.trans (congrArg some (by kernel_rfl))⟩
  t0 := Try.underlying0
  a0 := Try.isAgg0
  z0 := Try.sizeOf0
  v0 := Try.zeroValue0
  t3 := Try.underlying3
  a3 := Try.isAgg3
  z3 := Try.sizeOf3
  v3 := Try.zeroValue3
  t4 := Try.underlying4
  a4 := Try.isAgg4
  z4 := Try.sizeOf4
  v4 := Try.zeroValue4
  t5 := Try.underlying5
  a5 := Try.isAgg5
  z5 := Try.sizeOf5
  v5 := Try.zeroValue5
  t9 := Try.underlying9
  a9 := Try.isAgg9
  z9 := Try.sizeOf9
  v9 := Try.zeroValue9
  t22 := Try.underlying24
  a22 := Try.isAgg24
  z22 := Try.sizeOf24
  v22 := Try.zeroValue24
  t23 := Try.underlying24
  a23 := Try.isAgg24
  z23 := Try.sizeOf24
  v23 := Try.zeroValue24
  t25 := Try.underlying3
  a25 := Try.isAgg3
  z25 := Try.sizeOf3
  v25 := Try.zeroValue3
  t32 := Try.underlying48
  a32 := Try.isAgg48
  z32 := Try.sizeOf48
  v32 := Try.zeroValue48
  t35 := Try.underlying160
  a35 := Try.isAgg160
  z35 := Try.sizeOf160
  v35 := Try.zeroValue160
  t36 := Try.underlying161
  a36 := Try.isAgg161
  z36 := Try.sizeOf161
  v36 := Try.zeroValue161
  t41 := Try.underlying166
  a41 := Try.isAgg166
  z41 := Try.sizeOf166
  v41 := Try.zeroValue166
  t44 := Try.underlying169
  a44 := Try.isAgg169
  z44 := Try.sizeOf169
  v44 := Try.zeroValue169
  t46 := Try.underlying171
  a46 := Try.isAgg171
  z46 := Try.sizeOf171
  v46 := Try.zeroValue171
  t53 := Try.underlying180
  a53 := Try.isAgg180
  z53 := Try.sizeOf180
  v53 := Try.zeroValue180
  t57 := Try.underlying184
  a57 := Try.isAgg184
  z57 := Try.sizeOf184
  v57 := Try.zeroValue184
  t63 := Try.underlying188
  a63 := Try.isAgg188
  z63 := Try.sizeOf188
  v63 := Try.zeroValue188
  t64 := Try.underlying49
  a64 := Try.isAgg49
  z64 := Try.sizeOf49
  v64 := Try.zeroValue49 }
end Go.Proofs
