/-
  DERIVED: THE SHELF's CONTRACTS AT THIS DUMP, IN PLAIN WORDS (tools/lay-plain.mjs out of 'YtdgapmnojmhllaaGreatDoorZzShelfR.lean', which tools/lay-shelf.mjs wrote): THE SAME DECLARATIONS UNDER THE SAME NAMES: 'import', 'namespace', 'open', 'def', 'theorem' AND NOTHING ELSE: no command of the shelf's: FOR A HAND-IN. Each laying: the table of numbers ('.._ren') and one theorem, a field a fact of the dump's own or the kernel's comparison; each contract: ONE APPLICATION.
-/
import Derived.Shelf.Strings.Builder1
import Derived.Shelf.Strings.Builder2
import Derived.Shelf.Small.Strs
import Derived.Shelf.Strings.BuilderF
import Derived.Shelf.Strings.Search1
import Derived.Shelf.Strings.Search2
import Derived.Shelf.Strings.Search3
import Derived.Shelf.Strings.Count
import Derived.Shelf.LaysM
import Derived.Shelf.Strings.Shaped
import Derived.Shelf.Strings.Prefix
import Derived.Shelf.Strings.Split
import Derived.Shelf.Strings.Replace
import Derived.Shelf.Strings.SplitShaped
import Derived.Shelf.Bits.Mul64
import Derived.Shelf.Strings.Repeat
import Derived.Shelf.Unicode.DecodeSlow
import Derived.Ground.SlgnProg
import Derived.Shelf.SlicesG.CompactS
import Derived.Ground.SlgmProg
import Derived.Shelf.SortM.Plain
import Derived.Shelf.SortM.SortNone
import Derived.Test.YtdgapmnojmhllaaGreatDoorProg
namespace Go.Proofs
open Go.Shelf
def Tryz.lays144_ren : Go.Shelf.Ren := ⟨fun | 144 => 48 | 143 => 95 | 219 => 136 | 217 => 169 | 225 => 170 | 224 => 171 | 267 => 172 | 266 => 191 | 314 => 192 | n => n, fun | 9 => 9 | 4 => 4 | 3 => 3 | 5 => 5 | 46 => 41 | 146 => 225 | 51 => 224 | n => n, fun | 1 => 0 | n => n⟩
theorem Tryz.lays144 : Go.Proofs.Lays.n144 Tryz.prog Tryz.lays144_ren := {
  mixed := by kernel_rfl
  f143 := Tryz.func95.trans (congrArg some (by kernel_rfl))
  f144 := Tryz.func48.trans (congrArg some (by kernel_rfl))
  f217 := Tryz.func169.trans (congrArg some (by kernel_rfl))
  f219 := Tryz.func136.trans (congrArg some (by kernel_rfl))
  f224 := Tryz.func171.trans (congrArg some (by kernel_rfl))
  f225 := Tryz.func170.trans (congrArg some (by kernel_rfl))
  f266 := Tryz.func191.trans (congrArg some (by kernel_rfl))
  f267 := Tryz.func172.trans (congrArg some (by kernel_rfl))
  f314 := Tryz.func192.trans (congrArg some (by kernel_rfl))
  t3 := Tryz.underlying3
  a3 := Tryz.isAgg3
  z3 := Tryz.sizeOf3
  v3 := Tryz.zeroValue3
  t4 := Tryz.underlying4
  a4 := Tryz.isAgg4
  z4 := Tryz.sizeOf4
  v4 := Tryz.zeroValue4
  t5 := Tryz.underlying5
  a5 := Tryz.isAgg5
  z5 := Tryz.sizeOf5
  v5 := Tryz.zeroValue5
  t9 := Tryz.underlying9
  a9 := Tryz.isAgg9
  z9 := Tryz.sizeOf9
  v9 := Tryz.zeroValue9
  t46 := Tryz.underlying41
  a46 := Tryz.isAgg41
  z46 := Tryz.sizeOf41
  v46 := Tryz.zeroValue41
  t51 := Tryz.underlying224
  a51 := Tryz.isAgg224
  z51 := Tryz.sizeOf224
  v51 := Tryz.zeroValue224
  t146 := Tryz.underlying225
  a146 := Tryz.isAgg225
  z146 := Tryz.sizeOf225
  v146 := Tryz.zeroValue225
  g1 := by kernel_rfl }
open Go.RowKit Go.Lib in
/-- strings.Contains: "Contains reports whether substr is within s.": AT A substr OF ONE BYTE c: IT RETURNS 'decide (0 ≤ Lib.indexByte s c)'; the world is as it was. (LAID: no walk: one application.) -/
theorem Tryz.strings_Contains_one (s : ByteArray) (c : UInt8) (w : World) :
    Calls Tryz.prog 48 #[.string s, .string ⟨#[c]⟩] w fun e w' => e = .returned (.bool (decide (0 ≤ Lib.indexByte s.data.toList c))) ∧ w' = w := Any.strings_Contains_one Tryz.lays144 s c w
def Tryz.lays155_ren : Go.Shelf.Ren := ⟨fun | 155 => 97 | 154 => 137 | 138 => 173 | 165 => 160 | 143 => 95 | 166 => 93 | 197 => 174 | 169 => 41 | 195 => 193 | 218 => 194 | 240 => 135 | 241 => 185 | 219 => 136 | 260 => 195 | 276 => 168 | 277 => 204 | 217 => 169 | 225 => 170 | 224 => 171 | 267 => 172 | 266 => 191 | 314 => 192 | n => n, fun | 9 => 9 | 3 => 3 | 4 => 4 | 72 => 97 | 0 => 0 | 76 => 154 | 105 => 218 | 21 => 21 | 5 => 5 | 70 => 94 | 20 => 20 | 37 => 95 | 75 => 153 | 127 => 145 | 164 => 216 | 46 => 41 | 119 => 239 | 139 => 242 | 138 => 241 | 146 => 225 | 51 => 224 | 80 => 101 | n => n, fun | 1 => 0 | 3 => 1 | 4 => 2 | n => n⟩
theorem Tryz.lays155 : Go.Proofs.Lays.n155 Tryz.prog Tryz.lays155_ren := {
  mixed := by kernel_rfl
  f138 := Tryz.func173.trans (congrArg some (by kernel_rfl))
  f143 := Tryz.func95.trans (congrArg some (by kernel_rfl))
  f154 := Tryz.func137.trans (congrArg some (by kernel_rfl))
  f155 := Tryz.func97.trans (congrArg some (by kernel_rfl))
  f165 := Tryz.func160.trans (congrArg some (by kernel_rfl))
  f166 := Tryz.func93.trans (congrArg some (by kernel_rfl))
  f169 := Tryz.func41.trans (congrArg some (by kernel_rfl))
  f195 := Tryz.func193.trans (congrArg some (by kernel_rfl))
  f197 := Tryz.func174.trans (congrArg some (by kernel_rfl))
  f217 := Tryz.func169.trans (congrArg some (by kernel_rfl))
  f218 := Tryz.func194.trans (congrArg some (by kernel_rfl))
  f219 := Tryz.func136.trans (congrArg some (by kernel_rfl))
  f224 := Tryz.func171.trans (congrArg some (by kernel_rfl))
  f225 := Tryz.func170.trans (congrArg some (by kernel_rfl))
  f240 := Tryz.func135.trans (congrArg some (by kernel_rfl))
  f241 := Tryz.func185.trans (congrArg some (by kernel_rfl))
  f260 := Tryz.func195.trans (congrArg some (by kernel_rfl))
  f266 := Tryz.func191.trans (congrArg some (by kernel_rfl))
  f267 := Tryz.func172.trans (congrArg some (by kernel_rfl))
  f276 := Tryz.func168.trans (congrArg some (by kernel_rfl))
  f277 := Tryz.func204.trans (congrArg some (by kernel_rfl))
  f314 := Tryz.func192.trans (congrArg some (by kernel_rfl))
  t0 := Tryz.underlying0
  a0 := Tryz.isAgg0
  z0 := Tryz.sizeOf0
  v0 := Tryz.zeroValue0
  t3 := Tryz.underlying3
  a3 := Tryz.isAgg3
  z3 := Tryz.sizeOf3
  v3 := Tryz.zeroValue3
  t4 := Tryz.underlying4
  a4 := Tryz.isAgg4
  z4 := Tryz.sizeOf4
  v4 := Tryz.zeroValue4
  t5 := Tryz.underlying5
  a5 := Tryz.isAgg5
  z5 := Tryz.sizeOf5
  v5 := Tryz.zeroValue5
  t9 := Tryz.underlying9
  a9 := Tryz.isAgg9
  z9 := Tryz.sizeOf9
  v9 := Tryz.zeroValue9
  t20 := Tryz.underlying20
  a20 := Tryz.isAgg20
  z20 := Tryz.sizeOf20
  v20 := Tryz.zeroValue20
  t21 := Tryz.underlying21
  a21 := Tryz.isAgg21
  z21 := Tryz.sizeOf21
  v21 := Tryz.zeroValue21
  t37 := Tryz.underlying95
  a37 := Tryz.isAgg95
  z37 := Tryz.sizeOf95
  v37 := Tryz.zeroValue95
  t46 := Tryz.underlying41
  a46 := Tryz.isAgg41
  z46 := Tryz.sizeOf41
  v46 := Tryz.zeroValue41
  t51 := Tryz.underlying224
  a51 := Tryz.isAgg224
  z51 := Tryz.sizeOf224
  v51 := Tryz.zeroValue224
  t70 := Tryz.underlying94
  a70 := Tryz.isAgg94
  z70 := Tryz.sizeOf94
  v70 := Tryz.zeroValue94
  t72 := Tryz.underlying97
  a72 := Tryz.isAgg97
  z72 := Tryz.sizeOf97
  v72 := Tryz.zeroValue97
  t75 := Tryz.underlying153
  a75 := Tryz.isAgg153
  z75 := Tryz.sizeOf153
  v75 := Tryz.zeroValue153
  t76 := Tryz.underlying154
  a76 := Tryz.isAgg154
  z76 := Tryz.sizeOf154
  v76 := Tryz.zeroValue154
  t105 := Tryz.underlying218
  a105 := Tryz.isAgg218
  z105 := Tryz.sizeOf218
  v105 := Tryz.zeroValue218
  t119 := Tryz.underlying239
  a119 := Tryz.isAgg239
  z119 := Tryz.sizeOf239
  t127 := Tryz.underlying145
  a127 := Tryz.isAgg145
  z127 := Tryz.sizeOf145
  v127 := Tryz.zeroValue145
  t138 := Tryz.underlying241
  a138 := Tryz.isAgg241
  z138 := Tryz.sizeOf241
  v138 := Tryz.zeroValue241
  t139 := Tryz.underlying242
  a139 := Tryz.isAgg242
  z139 := Tryz.sizeOf242
  v139 := Tryz.zeroValue242
  t146 := Tryz.underlying225
  a146 := Tryz.isAgg225
  z146 := Tryz.sizeOf225
  v146 := Tryz.zeroValue225
  t164 := Tryz.underlying216
  a164 := Tryz.isAgg216
  z164 := Tryz.sizeOf216
  v164 := Tryz.zeroValue216
  g1 := by kernel_rfl
  g3 := by kernel_rfl
  g4 := by kernel_rfl }
theorem Tryz.Builder_Extra_155 : Builder.Extra Tryz.prog Tryz.lays155_ren := {
  sizeBuilder := by kernel_rfl
  liesBuilder := by kernel_rfl
  t5 := Tryz.underlying5
  a5 := Tryz.isAgg5
  z5 := Tryz.sizeOf5
  v5 := Tryz.zeroValue5
  infoByte := by kernel_rfl
  cellsByte := by kernel_rfl
  sizeByte := by kernel_rfl
  neB5 := by decide }
open Go.RowKit Go.Lib in
/-- strings.ReplaceAll: "ReplaceAll returns a copy of the string s with all non-overlapping instances of old replaced by new.": AT AN old THAT IS NOT EMPTY: 'Lib.replaceAll s old new'. (LAID: no walk: one application.) -/
theorem Tryz.strings_ReplaceAll (s old new : ByteArray) (m : Int) (w : World) (hs : s.size < 4294967281) (hm : w.cell? ⟨0, 0, none⟩ = some (.int .i64 m)) (h1 : 1 ≤ old.size) (hlen : s.size + Lib.countB s old * new.size ≤ 140737488355328) :
    Calls Tryz.prog 97 #[.string s, .string old, .string new] w fun e w' =>
      e = .returned (.string ⟨(Lib.replaceAll s.data.toList old.data.toList new.data.toList).toArray⟩) ∧ Below w.heap.size w w' := Any.strings_ReplaceAll Tryz.lays155 Tryz.Builder_Extra_155 s old new m w hs hm h1 hlen
def Tryz.lays105_ren : Go.Shelf.Ren := ⟨fun | 105 => 125 | 212 => 159 | 99 => 140 | 165 => 160 | 166 => 93 | 170 => 40 | 169 => 41 | 263 => 183 | 264 => 184 | 206 => 175 | 240 => 135 | 241 => 185 | 276 => 168 | 277 => 204 | n => n, fun | 9 => 9 | 3 => 3 | 4 => 4 | 20 => 20 | 0 => 0 | 46 => 41 | 109 => 209 | 5 => 5 | 72 => 97 | 76 => 154 | 51 => 224 | 146 => 225 | 53 => 157 | 148 => 227 | 70 => 94 | 37 => 95 | 75 => 153 | 127 => 145 | 164 => 216 | 80 => 101 | n => n, fun | n => n⟩
theorem Tryz.lays105 : Go.Proofs.Lays.n105 Tryz.prog Tryz.lays105_ren := {
  mixed := by kernel_rfl
  f99 := Tryz.func140.trans (congrArg some (by kernel_rfl))
  f105 := Tryz.func125.trans (congrArg some (by kernel_rfl))
  f165 := Tryz.func160.trans (congrArg some (by kernel_rfl))
  f166 := Tryz.func93.trans (congrArg some (by kernel_rfl))
  f169 := Tryz.func41.trans (congrArg some (by kernel_rfl))
  f170 := Tryz.func40.trans (congrArg some (by kernel_rfl))
  f206 := Tryz.func175.trans (congrArg some (by kernel_rfl))
  f212 := Tryz.func159.trans (congrArg some (by kernel_rfl))
  f240 := Tryz.func135.trans (congrArg some (by kernel_rfl))
  f241 := Tryz.func185.trans (congrArg some (by kernel_rfl))
  f263 := Tryz.func183.trans (congrArg some (by kernel_rfl))
  f264 := Tryz.func184.trans (congrArg some (by kernel_rfl))
  f276 := Tryz.func168.trans (congrArg some (by kernel_rfl))
  f277 := Tryz.func204.trans (congrArg some (by kernel_rfl))
  t0 := Tryz.underlying0
  a0 := Tryz.isAgg0
  z0 := Tryz.sizeOf0
  v0 := Tryz.zeroValue0
  t3 := Tryz.underlying3
  a3 := Tryz.isAgg3
  z3 := Tryz.sizeOf3
  v3 := Tryz.zeroValue3
  t4 := Tryz.underlying4
  a4 := Tryz.isAgg4
  z4 := Tryz.sizeOf4
  v4 := Tryz.zeroValue4
  t5 := Tryz.underlying5
  a5 := Tryz.isAgg5
  z5 := Tryz.sizeOf5
  v5 := Tryz.zeroValue5
  t9 := Tryz.underlying9
  a9 := Tryz.isAgg9
  z9 := Tryz.sizeOf9
  v9 := Tryz.zeroValue9
  t20 := Tryz.underlying20
  a20 := Tryz.isAgg20
  z20 := Tryz.sizeOf20
  v20 := Tryz.zeroValue20
  t37 := Tryz.underlying95
  a37 := Tryz.isAgg95
  z37 := Tryz.sizeOf95
  v37 := Tryz.zeroValue95
  t46 := Tryz.underlying41
  a46 := Tryz.isAgg41
  z46 := Tryz.sizeOf41
  v46 := Tryz.zeroValue41
  t51 := Tryz.underlying224
  a51 := Tryz.isAgg224
  z51 := Tryz.sizeOf224
  v51 := Tryz.zeroValue224
  t53 := Tryz.underlying157
  a53 := Tryz.isAgg157
  z53 := Tryz.sizeOf157
  v53 := Tryz.zeroValue157
  t70 := Tryz.underlying94
  a70 := Tryz.isAgg94
  z70 := Tryz.sizeOf94
  v70 := Tryz.zeroValue94
  t72 := Tryz.underlying97
  a72 := Tryz.isAgg97
  z72 := Tryz.sizeOf97
  v72 := Tryz.zeroValue97
  t75 := Tryz.underlying153
  a75 := Tryz.isAgg153
  z75 := Tryz.sizeOf153
  v75 := Tryz.zeroValue153
  t76 := Tryz.underlying154
  a76 := Tryz.isAgg154
  z76 := Tryz.sizeOf154
  v76 := Tryz.zeroValue154
  t109 := Tryz.underlying209
  a109 := Tryz.isAgg209
  z109 := Tryz.sizeOf209
  v109 := Tryz.zeroValue209
  t127 := Tryz.underlying145
  a127 := Tryz.isAgg145
  z127 := Tryz.sizeOf145
  v127 := Tryz.zeroValue145
  t146 := Tryz.underlying225
  a146 := Tryz.isAgg225
  z146 := Tryz.sizeOf225
  v146 := Tryz.zeroValue225
  t148 := Tryz.underlying227
  a148 := Tryz.isAgg227
  z148 := Tryz.sizeOf227
  v148 := Tryz.zeroValue227
  t164 := Tryz.underlying216
  a164 := Tryz.isAgg216
  z164 := Tryz.sizeOf216
  v164 := Tryz.zeroValue216 }
theorem Tryz.Builder_Extra_105 : Builder.Extra Tryz.prog Tryz.lays105_ren := {
  sizeBuilder := by kernel_rfl
  liesBuilder := by kernel_rfl
  t5 := Tryz.underlying5
  a5 := Tryz.isAgg5
  z5 := Tryz.sizeOf5
  v5 := Tryz.zeroValue5
  infoByte := by kernel_rfl
  cellsByte := by kernel_rfl
  sizeByte := by kernel_rfl
  neB5 := by decide }
open Go.RowKit Go.Lib in
/-- **strings.Repeat: count ≥ 0, the result within one allocation: count copies of s.** (LAID: no walk: one application.) -/
theorem Tryz.strings_Repeat (s : ByteArray) (c : Nat) (w : World) (hc : c ≤ 9223372036854775807) (hlen : s.size * c ≤ 140737488355328) :
    Calls Tryz.prog 125 #[.string s, .int .i64 c] w fun e w' => e = .returned (.string ⟨(Lib.repeatL s.data.toList c).toArray⟩) ∧ Below w.heap.size w w' := Any.strings_Repeat Tryz.lays105 Tryz.Builder_Extra_105 s c w hc hlen
end Go.Proofs
