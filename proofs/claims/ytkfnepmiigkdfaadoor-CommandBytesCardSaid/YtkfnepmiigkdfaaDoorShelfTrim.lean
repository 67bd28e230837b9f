/-
  DERIVED: THE SHELF's CONTRACTS AT THIS DUMP, IN PLAIN WORDS (tools/lay-plain.mjs out of 'YtkfnepmiigkdfaaDoorShelfTrim.lean', which tools/lay-shelf.mjs wrote): THE SAME DECLARATIONS UNDER THE SAME NAMES: 'import', 'namespace', 'open', 'def', 'theorem' AND NOTHING ELSE: no command of the shelf's: FOR A HAND-IN. Each laying: the table of numbers ('.._ren') and one theorem, a field a fact of the dump's own or the kernel's comparison; each contract: ONE APPLICATION.
-/
import Derived.Test.YtkfnepmiigkdfaaDoorProg
import Derived.Ground.NamesProg
import Derived.Shelf.Strings.SlTrimAscii
namespace Go.Proofs
open Go.Shelf
def Tryd.laysTrim_ren : Go.Shelf.Ren := ⟨fun | 160 => 96 | 232 => 102 | 231 => 101 | 227 => 103 | 234 => 105 | 233 => 104 | 236 => 107 | 235 => 106 | 228 => 109 | 271 => 112 | 151 => 111 | 197 => 110 | 120 => 115 | 152 => 114 | 260 => 113 | 137 => 116 | 119 => 117 | 224 => 118 | 225 => 119 | 217 => 120 | 266 => 121 | n => n, fun | 9 => 9 | 4 => 4 | 3 => 3 | 5 => 5 | 117 => 151 | 116 => 150 | 0 => 0 | 124 => 154 | 21 => 21 | 105 => 158 | 46 => 126 | 119 => 143 | 139 => 146 | 138 => 145 | n => n, fun | 3 => 0 | 4 => 1 | n => n⟩
theorem Tryd.laysTrim : Go.Proofs.Lays.n160 Tryd.prog Tryd.laysTrim_ren := {
  mixed := by kernel_rfl
  f119 := Tryd.func117.trans (congrArg some (by kernel_rfl))
  f120 := Tryd.func115.trans (congrArg some (by kernel_rfl))
  f137 := Tryd.func116.trans (congrArg some (by kernel_rfl))
  f151 := Tryd.func111.trans (congrArg some (by kernel_rfl))
  f152 := Tryd.func114.trans (congrArg some (by kernel_rfl))
  f160 := Tryd.func96.trans (congrArg some (by kernel_rfl))
  f197 := Tryd.func110.trans (congrArg some (by kernel_rfl))
  f217 := Tryd.func120.trans (congrArg some (by kernel_rfl))
  f224 := Tryd.func118.trans (congrArg some (by kernel_rfl))
  f225 := Tryd.func119.trans (congrArg some (by kernel_rfl))
  f227 := Tryd.func103.trans (congrArg some (by kernel_rfl))
  f228 := Tryd.func109.trans (congrArg some (by kernel_rfl))
  f231 := Tryd.func101.trans (congrArg some (by kernel_rfl))
  f232 := Tryd.func102.trans (congrArg some (by kernel_rfl))
  f233 := Tryd.func104.trans (congrArg some (by kernel_rfl))
  f234 := Tryd.func105.trans (congrArg some (by kernel_rfl))
  f235 := Tryd.func106.trans (congrArg some (by kernel_rfl))
  f236 := Tryd.func107.trans (congrArg some (by kernel_rfl))
  f260 := Tryd.func113.trans (congrArg some (by kernel_rfl))
  f266 := Tryd.func121.trans (congrArg some (by kernel_rfl))
  f271 := Tryd.func112.trans (congrArg some (by kernel_rfl))
  t0 := Tryd.underlying0
  a0 := Tryd.isAgg0
  z0 := Tryd.sizeOf0
  v0 := Tryd.zeroValue0
  t3 := Tryd.underlying3
  a3 := Tryd.isAgg3
  z3 := Tryd.sizeOf3
  v3 := Tryd.zeroValue3
  t4 := Tryd.underlying4
  a4 := Tryd.isAgg4
  z4 := Tryd.sizeOf4
  v4 := Tryd.zeroValue4
  t5 := Tryd.underlying5
  a5 := Tryd.isAgg5
  z5 := Tryd.sizeOf5
  v5 := Tryd.zeroValue5
  t9 := Tryd.underlying9
  a9 := Tryd.isAgg9
  z9 := Tryd.sizeOf9
  v9 := Tryd.zeroValue9
  t21 := Tryd.underlying21
  a21 := Tryd.isAgg21
  z21 := Tryd.sizeOf21
  v21 := Tryd.zeroValue21
  t46 := Tryd.underlying126
  a46 := Tryd.isAgg126
  z46 := Tryd.sizeOf126
  v46 := Tryd.zeroValue126
  t105 := Tryd.underlying158
  a105 := Tryd.isAgg158
  z105 := Tryd.sizeOf158
  v105 := Tryd.zeroValue158
  t116 := Tryd.underlying150
  a116 := Tryd.isAgg150
  z116 := Tryd.sizeOf150
  t117 := Tryd.underlying151
  a117 := Tryd.isAgg151
  z117 := Tryd.sizeOf151
  v117 := Tryd.zeroValue151
  t119 := Tryd.underlying143
  a119 := Tryd.isAgg143
  z119 := Tryd.sizeOf143
  t124 := Tryd.underlying154
  a124 := Tryd.isAgg154
  z124 := Tryd.sizeOf154
  v124 := Tryd.zeroValue154
  t138 := Tryd.underlying145
  a138 := Tryd.isAgg145
  z138 := Tryd.sizeOf145
  v138 := Tryd.zeroValue145
  t139 := Tryd.underlying146
  a139 := Tryd.isAgg146
  z139 := Tryd.sizeOf146
  v139 := Tryd.zeroValue146
  g3 := by kernel_rfl
  g4 := by kernel_rfl }
end Go.Proofs
