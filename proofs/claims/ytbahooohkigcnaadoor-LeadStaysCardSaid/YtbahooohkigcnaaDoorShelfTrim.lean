/-
  DERIVED: THE SHELF's CONTRACTS AT THIS DUMP, IN PLAIN WORDS (tools/lay-plain.mjs out of 'YtbahooohkigcnaaDoorShelfTrim.lean', which tools/lay-shelf.mjs wrote): THE SAME DECLARATIONS UNDER THE SAME NAMES: 'import', 'namespace', 'open', 'def', 'theorem' AND NOTHING ELSE: no command of the shelf's: FOR A HAND-IN. Each laying: the table of numbers ('.._ren') and one theorem, a field a fact of the dump's own or the kernel's comparison; each contract: ONE APPLICATION.
-/
import Derived.Test.YtbahooohkigcnaaDoorProg
import Derived.Ground.NamesProg
import Derived.Shelf.Strings.SlTrimAscii
namespace Go.Proofs
open Go.Shelf
def Tryd.laysTrim_ren : Go.Shelf.Ren := ⟨fun | 160 => 136 | 232 => 142 | 231 => 141 | 227 => 143 | 234 => 145 | 233 => 144 | 236 => 147 | 235 => 146 | 228 => 149 | 271 => 152 | 151 => 151 | 197 => 150 | 120 => 155 | 152 => 154 | 260 => 153 | 137 => 156 | 119 => 157 | 224 => 158 | 225 => 159 | 217 => 160 | 266 => 161 | n => n, fun | 9 => 9 | 4 => 4 | 3 => 3 | 5 => 5 | 117 => 209 | 116 => 208 | 0 => 0 | 124 => 212 | 21 => 21 | 105 => 216 | 46 => 72 | 119 => 202 | 139 => 205 | 138 => 204 | n => n, fun | 3 => 0 | 4 => 1 | n => n⟩
theorem Tryd.laysTrim : Go.Proofs.Lays.n160 Tryd.prog Tryd.laysTrim_ren := {
  mixed := by kernel_rfl
  f119 := Tryd.func157.trans (congrArg some (by kernel_rfl))
  f120 := Tryd.func155.trans (congrArg some (by kernel_rfl))
  f137 := Tryd.func156.trans (congrArg some (by kernel_rfl))
  f151 := Tryd.func151.trans (congrArg some (by kernel_rfl))
  f152 := Tryd.func154.trans (congrArg some (by kernel_rfl))
  f160 := Tryd.func136.trans (congrArg some (by kernel_rfl))
  f197 := Tryd.func150.trans (congrArg some (by kernel_rfl))
  f217 := Tryd.func160.trans (congrArg some (by kernel_rfl))
  f224 := Tryd.func158.trans (congrArg some (by kernel_rfl))
  f225 := Tryd.func159.trans (congrArg some (by kernel_rfl))
  f227 := Tryd.func143.trans (congrArg some (by kernel_rfl))
  f228 := Tryd.func149.trans (congrArg some (by kernel_rfl))
  f231 := Tryd.func141.trans (congrArg some (by kernel_rfl))
  f232 := Tryd.func142.trans (congrArg some (by kernel_rfl))
  f233 := Tryd.func144.trans (congrArg some (by kernel_rfl))
  f234 := Tryd.func145.trans (congrArg some (by kernel_rfl))
  f235 := Tryd.func146.trans (congrArg some (by kernel_rfl))
  f236 := Tryd.func147.trans (congrArg some (by kernel_rfl))
  f260 := Tryd.func153.trans (congrArg some (by kernel_rfl))
  f266 := Tryd.func161.trans (congrArg some (by kernel_rfl))
  f271 := Tryd.func152.trans (congrArg some (by kernel_rfl))
  t0 := Tryd.underlying0
  a0 := Tryd.isAgg0
  z0 := Tryd.sizeOf0
  v0 := Tryd.zeroValue0
  t3 := Tryd.underlying3
  a3 := Tryd.isAgg3
  z3 := Tryd.sizeOf3
  v3 := Tryd.zeroValue3
  t4 := Tryd.underlying4
  a4 := Tryd.isAgg4
  z4 := Tryd.sizeOf4
  v4 := Tryd.zeroValue4
  t5 := Tryd.underlying5
  a5 := Tryd.isAgg5
  z5 := Tryd.sizeOf5
  v5 := Tryd.zeroValue5
  t9 := Tryd.underlying9
  a9 := Tryd.isAgg9
  z9 := Tryd.sizeOf9
  v9 := Tryd.zeroValue9
  t21 := Tryd.underlying21
  a21 := Tryd.isAgg21
  z21 := Tryd.sizeOf21
  v21 := Tryd.zeroValue21
  t46 := Tryd.underlying72
  a46 := Tryd.isAgg72
  z46 := Tryd.sizeOf72
  v46 := Tryd.zeroValue72
  t105 := Tryd.underlying216
  a105 := Tryd.isAgg216
  z105 := Tryd.sizeOf216
  v105 := Tryd.zeroValue216
  t116 := Tryd.underlying208
  a116 := Tryd.isAgg208
  z116 := Tryd.sizeOf208
  t117 := Tryd.underlying209
  a117 := Tryd.isAgg209
  z117 := Tryd.sizeOf209
  v117 := Tryd.zeroValue209
  t119 := Tryd.underlying202
  a119 := Tryd.isAgg202
  z119 := Tryd.sizeOf202
  t124 := Tryd.underlying212
  a124 := Tryd.isAgg212
  z124 := Tryd.sizeOf212
  v124 := Tryd.zeroValue212
  t138 := Tryd.underlying204
  a138 := Tryd.isAgg204
  z138 := Tryd.sizeOf204
  v138 := Tryd.zeroValue204
  t139 := Tryd.underlying205
  a139 := Tryd.isAgg205
  z139 := Tryd.sizeOf205
  v139 := Tryd.zeroValue205
  g3 := by kernel_rfl
  g4 := by kernel_rfl }
end Go.Proofs
