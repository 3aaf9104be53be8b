/-
  DERIVED: THE SHELF's CONTRACTS AT THIS DUMP, IN PLAIN WORDS (tools/lay-plain.mjs out of 'YtlakeanldbdedaaGreatZzShelfS.lean', which tools/lay-shelf.mjs wrote): THE SAME DECLARATIONS UNDER THE SAME NAMES: 'import', 'namespace', 'open', 'def', 'theorem' AND NOTHING ELSE: no command of the shelf's: FOR A HAND-IN. Each laying: the table of numbers ('.._ren') and one theorem, a field a fact of the dump's own or the kernel's comparison; each contract: ONE APPLICATION.
-/
import Derived.Shelf.SlGeneric
import Derived.Ground.SlgmProg
import Derived.Shelf.SortM.Plain
import Derived.Shelf.SortM.SortNone
import Derived.Shelf.SlicesG.CompactS
import Derived.Test.YtlakeanldbdedaaGreatProg
namespace Go.Proofs
open Go.Shelf
def Tryz.sortS_ren : Go.Shelf.Ren := ⟨fun | 6 => 125 | 8 => 147 | 9 => 146 | 19 => 160 | 20 => 161 | 21 => 151 | 22 => 152 | 23 => 153 | 24 => 154 | 25 => 155 | 26 => 156 | 27 => 157 | 28 => 158 | 29 => 159 | 36 => 163 | 31 => 164 | 32 => 165 | 37 => 166 | 38 => 167 | 39 => 168 | 41 => 170 | n => n, fun | 27 => 56 | 29 => 9 | 3 => 3 | 32 => 37 | 26 => 56 | 0 => 0 | 44 => 176 | 46 => 153 | 4 => 4 | 36 => 170 | 35 => 169 | 41 => 138 | 5 => 5 | 9 => 9 | 53 => 178 | 57 => 182 | 63 => 184 | 64 => 77 | n => n, fun | n => n⟩
theorem Tryz.sortS : Go.Proofs.SlLaysM.n6 Tryz.prog Tryz.sortS_ren := {
  mixed := by kernel_rfl
  f6 := ⟨Tryz.f125.name, by decide, Tryz.func125.trans (congrArg some (by kernel_rfl))⟩
  f8 := Tryz.func147.trans (congrArg some (by kernel_rfl))
  f9 := ⟨Tryz.f146.name, by decide, Tryz.func146.trans (congrArg some (by kernel_rfl))⟩
  f19 := Tryz.func160.trans (congrArg some (by kernel_rfl))
  f20 := Tryz.func161.trans (congrArg some (by kernel_rfl))
  f21 := ⟨Tryz.f151.name, by decide, Tryz.func151.trans (congrArg some (by kernel_rfl))⟩
  f22 := ⟨Tryz.f152.name, by decide, Tryz.func152.trans (congrArg some (by kernel_rfl))⟩
  f23 := ⟨Tryz.f153.name, by decide, Tryz.func153.trans (congrArg some (by kernel_rfl))⟩
  f24 := ⟨Tryz.f154.name, by decide, Tryz.func154.trans (congrArg some (by kernel_rfl))⟩
  f25 := ⟨Tryz.f155.name, by decide, Tryz.func155.trans (congrArg some (by kernel_rfl))⟩
  f26 := ⟨Tryz.f156.name, by decide, Tryz.func156.trans (congrArg some (by kernel_rfl))⟩
  f27 := ⟨Tryz.f157.name, by decide, Tryz.func157.trans (congrArg some (by kernel_rfl))⟩
  f28 := ⟨Tryz.f158.name, by decide, Tryz.func158.trans (congrArg some (by kernel_rfl))⟩
  f29 := ⟨Tryz.f159.name, by decide, Tryz.func159.trans (congrArg some (by kernel_rfl))⟩
  f31 := Tryz.func164.trans (congrArg some (by kernel_rfl))
  f32 := Tryz.func165.trans (congrArg some (by kernel_rfl))
  f36 := ⟨Tryz.f163.name, by decide, Tryz.func163.trans (congrArg some (by kernel_rfl))⟩
  f37 := ⟨Tryz.f166.name, by decide, Tryz.func166.trans (congrArg some (by kernel_rfl))⟩
  f38 := ⟨Tryz.f167.name, by decide, Tryz.func167.trans (congrArg some (by kernel_rfl))⟩
  f39 := ⟨Tryz.f168.name, by decide, Tryz.func168.trans (congrArg some (by kernel_rfl))⟩
  f41 := ⟨Tryz.f170.name, by decide, Tryz.func170.trans (congrArg some (by kernel_rfl))⟩
  t0 := Tryz.underlying0
  a0 := Tryz.isAgg0
  z0 := Tryz.sizeOf0
  v0 := Tryz.zeroValue0
  t3 := Tryz.underlying3
  a3 := Tryz.isAgg3
  z3 := Tryz.sizeOf3
  v3 := Tryz.zeroValue3
  t4 := Tryz.underlying4
  a4 := Tryz.isAgg4
  z4 := Tryz.sizeOf4
  v4 := Tryz.zeroValue4
  t5 := Tryz.underlying5
  a5 := Tryz.isAgg5
  z5 := Tryz.sizeOf5
  v5 := Tryz.zeroValue5
  t9 := Tryz.underlying9
  a9 := Tryz.isAgg9
  z9 := Tryz.sizeOf9
  v9 := Tryz.zeroValue9
  t26 := Tryz.underlying56
  a26 := Tryz.isAgg56
  z26 := Tryz.sizeOf56
  v26 := Tryz.zeroValue56
  t27 := Tryz.underlying56
  a27 := Tryz.isAgg56
  z27 := Tryz.sizeOf56
  v27 := Tryz.zeroValue56
  t29 := Tryz.underlying9
  a29 := Tryz.isAgg9
  z29 := Tryz.sizeOf9
  v29 := Tryz.zeroValue9
  t32 := Tryz.underlying37
  a32 := Tryz.isAgg37
  z32 := Tryz.sizeOf37
  v32 := Tryz.zeroValue37
  t35 := Tryz.underlying169
  a35 := Tryz.isAgg169
  z35 := Tryz.sizeOf169
  v35 := Tryz.zeroValue169
  t36 := Tryz.underlying170
  a36 := Tryz.isAgg170
  z36 := Tryz.sizeOf170
  v36 := Tryz.zeroValue170
  t41 := Tryz.underlying138
  a41 := Tryz.isAgg138
  z41 := Tryz.sizeOf138
  v41 := Tryz.zeroValue138
  t44 := Tryz.underlying176
  a44 := Tryz.isAgg176
  z44 := Tryz.sizeOf176
  v44 := Tryz.zeroValue176
  t46 := Tryz.underlying153
  a46 := Tryz.isAgg153
  z46 := Tryz.sizeOf153
  v46 := Tryz.zeroValue153
  t53 := Tryz.underlying178
  a53 := Tryz.isAgg178
  z53 := Tryz.sizeOf178
  v53 := Tryz.zeroValue178
  t57 := Tryz.underlying182
  a57 := Tryz.isAgg182
  z57 := Tryz.sizeOf182
  v57 := Tryz.zeroValue182
  t63 := Tryz.underlying184
  a63 := Tryz.isAgg184
  z63 := Tryz.sizeOf184
  v63 := Tryz.zeroValue184
  t64 := Tryz.underlying77
  a64 := Tryz.isAgg77
  z64 := Tryz.sizeOf77
  v64 := Tryz.zeroValue77 }
def Tryz.compactS_ren : Go.Shelf.Ren := ⟨fun | 44 => 91 | n => n, fun | 25 => 56 | 26 => 9 | 3 => 3 | 4 => 4 | 0 => 0 | n => n, fun | n => n⟩
theorem Tryz.compactS : Go.Proofs.SlLaysN.n44 Tryz.prog Tryz.compactS_ren := {
  mixed := by kernel_rfl
  f44 := ⟨Tryz.f91.name, by decide, Tryz.func91.trans (congrArg some (by kernel_rfl))⟩
  t0 := Tryz.underlying0
  a0 := Tryz.isAgg0
  z0 := Tryz.sizeOf0
  v0 := Tryz.zeroValue0
  t3 := Tryz.underlying3
  a3 := Tryz.isAgg3
  z3 := Tryz.sizeOf3
  v3 := Tryz.zeroValue3
  t4 := Tryz.underlying4
  a4 := Tryz.isAgg4
  z4 := Tryz.sizeOf4
  v4 := Tryz.zeroValue4
  t25 := Tryz.underlying56
  a25 := Tryz.isAgg56
  z25 := Tryz.sizeOf56
  v25 := Tryz.zeroValue56
  t26 := Tryz.underlying9
  a26 := Tryz.isAgg9
  z26 := Tryz.sizeOf9
  v26 := Tryz.zeroValue9
  i26 := by kernel_rfl }
end Go.Proofs
