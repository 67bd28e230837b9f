/-
  DERIVED: THE SHELF's CONTRACTS AT THIS DUMP, IN PLAIN WORDS (tools/lay-plain.mjs out of 'YtjofjpmhokjhnaaDoorShelfTrim.lean', which tools/lay-shelf.mjs wrote): THE SAME DECLARATIONS UNDER THE SAME NAMES: 'import', 'namespace', 'open', 'def', 'theorem' AND NOTHING ELSE: no command of the shelf's: FOR A HAND-IN. Each laying: the table of numbers ('.._ren') and one theorem, a field a fact of the dump's own or the kernel's comparison; each contract: ONE APPLICATION.
-/
import Derived.Test.YtjofjpmhokjhnaaDoorProg
import Derived.Ground.NamesProg
import Derived.Shelf.Strings.SlTrimAscii
namespace Go.Proofs
open Go.Shelf
def Tryd.laysTrim_ren : Go.Shelf.Ren := ⟨fun | 160 => 106 | 232 => 126 | 231 => 125 | 227 => 127 | 234 => 129 | 233 => 128 | 236 => 131 | 235 => 130 | 228 => 138 | 271 => 141 | 151 => 140 | 197 => 139 | 120 => 147 | 152 => 146 | 260 => 145 | 137 => 148 | 119 => 149 | 224 => 136 | 225 => 135 | 217 => 134 | 266 => 143 | n => n, fun | 9 => 9 | 4 => 4 | 3 => 3 | 5 => 5 | 117 => 168 | 116 => 167 | 0 => 0 | 124 => 171 | 21 => 21 | 105 => 177 | 46 => 149 | 119 => 161 | 139 => 164 | 138 => 163 | n => n, fun | 3 => 0 | 4 => 1 | n => n⟩
theorem Tryd.laysTrim : Go.Proofs.Lays.n160 Tryd.prog Tryd.laysTrim_ren := {
  mixed := by kernel_rfl
  f119 := Tryd.func149.trans (congrArg some (by kernel_rfl))
  f120 := Tryd.func147.trans (congrArg some (by kernel_rfl))
  f137 := Tryd.func148.trans (congrArg some (by kernel_rfl))
  f151 := Tryd.func140.trans (congrArg some (by kernel_rfl))
  f152 := Tryd.func146.trans (congrArg some (by kernel_rfl))
  f160 := Tryd.func106.trans (congrArg some (by kernel_rfl))
  f197 := Tryd.func139.trans (congrArg some (by kernel_rfl))
  f217 := Tryd.func134.trans (congrArg some (by kernel_rfl))
  f224 := Tryd.func136.trans (congrArg some (by kernel_rfl))
  f225 := Tryd.func135.trans (congrArg some (by kernel_rfl))
  f227 := Tryd.func127.trans (congrArg some (by kernel_rfl))
  f228 := Tryd.func138.trans (congrArg some (by kernel_rfl))
  f231 := Tryd.func125.trans (congrArg some (by kernel_rfl))
  f232 := Tryd.func126.trans (congrArg some (by kernel_rfl))
  f233 := Tryd.func128.trans (congrArg some (by kernel_rfl))
  f234 := Tryd.func129.trans (congrArg some (by kernel_rfl))
  f235 := Tryd.func130.trans (congrArg some (by kernel_rfl))
  f236 := Tryd.func131.trans (congrArg some (by kernel_rfl))
  f260 := Tryd.func145.trans (congrArg some (by kernel_rfl))
  f266 := Tryd.func143.trans (congrArg some (by kernel_rfl))
  f271 := Tryd.func141.trans (congrArg some (by kernel_rfl))
  t0 := Tryd.underlying0
  a0 := Tryd.isAgg0
  z0 := Tryd.sizeOf0
  v0 := Tryd.zeroValue0
  t3 := Tryd.underlying3
  a3 := Tryd.isAgg3
  z3 := Tryd.sizeOf3
  v3 := Tryd.zeroValue3
  t4 := Tryd.underlying4
  a4 := Tryd.isAgg4
  z4 := Tryd.sizeOf4
  v4 := Tryd.zeroValue4
  t5 := Tryd.underlying5
  a5 := Tryd.isAgg5
  z5 := Tryd.sizeOf5
  v5 := Tryd.zeroValue5
  t9 := Tryd.underlying9
  a9 := Tryd.isAgg9
  z9 := Tryd.sizeOf9
  v9 := Tryd.zeroValue9
  t21 := Tryd.underlying21
  a21 := Tryd.isAgg21
  z21 := Tryd.sizeOf21
  v21 := Tryd.zeroValue21
  t46 := Tryd.underlying149
  a46 := Tryd.isAgg149
  z46 := Tryd.sizeOf149
  v46 := Tryd.zeroValue149
  t105 := Tryd.underlying177
  a105 := Tryd.isAgg177
  z105 := Tryd.sizeOf177
  v105 := Tryd.zeroValue177
  t116 := Tryd.underlying167
  a116 := Tryd.isAgg167
  z116 := Tryd.sizeOf167
  t117 := Tryd.underlying168
  a117 := Tryd.isAgg168
  z117 := Tryd.sizeOf168
  v117 := Tryd.zeroValue168
  t119 := Tryd.underlying161
  a119 := Tryd.isAgg161
  z119 := Tryd.sizeOf161
  t124 := Tryd.underlying171
  a124 := Tryd.isAgg171
  z124 := Tryd.sizeOf171
  v124 := Tryd.zeroValue171
  t138 := Tryd.underlying163
  a138 := Tryd.isAgg163
  z138 := Tryd.sizeOf163
  v138 := Tryd.zeroValue163
  t139 := Tryd.underlying164
  a139 := Tryd.isAgg164
  z139 := Tryd.sizeOf164
  v139 := Tryd.zeroValue164
  g3 := by kernel_rfl
  g4 := by kernel_rfl }
end Go.Proofs
