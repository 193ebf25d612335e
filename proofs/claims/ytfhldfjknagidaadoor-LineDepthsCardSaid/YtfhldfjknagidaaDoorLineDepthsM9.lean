/-
  DERIVED: THE SHELF's CONTRACTS AT THIS DUMP, IN PLAIN WORDS (tools/lay-plain.mjs out of 'YtfhldfjknagidaaDoorLay2.lean', which tools/lay-shelf.mjs wrote): THE SAME DECLARATIONS UNDER THE SAME NAMES: 'import', 'namespace', 'open', 'def', 'theorem' AND NOTHING ELSE: no command of the shelf's: FOR A HAND-IN. Each laying: the table of numbers ('.._ren') and one theorem, a field a fact of the dump's own or the kernel's comparison; each contract: ONE APPLICATION.
-/
import Derived.Shelf.Lays
import Derived.Ground.NamesProg
import Derived.Shelf.Slices.CompactS
import Derived.Shelf.Slices.In.SortNone
import Derived.Shelf.Slices.In.SortAlone
import Derived.Sort.EveryDepth
import Derived.Test.YtfhldfjknagidaaDoorProg
set_option linter.unusedSimpArgs false
set_option linter.unusedVariables false
set_option linter.unnecessarySimpa false
set_option linter.all false
namespace Go.Proofs
open Go.Shelf
def Tryd.laysSort_ren : Go.Shelf.Ren := ⟨fun | 190 => 87 | 125 => 90 | 258 => 103 | 128 => 112 | 129 => 113 | 302 => 115 | 303 => 116 | 304 => 117 | 305 => 118 | 306 => 119 | 307 => 120 | 308 => 121 | 309 => 122 | 310 => 123 | 333 => 130 | 329 => 125 | 330 => 126 | 334 => 131 | 335 => 132 | 336 => 133 | 344 => 135 | n => n, fun | 31 => 69 | 9 => 9 | 3 => 3 | 46 => 39 | 0 => 0 | 51 => 135 | 53 => 134 | 4 => 4 | 183 => 143 | 182 => 142 | 131 => 147 | 5 => 5 | 218 => 160 | 222 => 164 | 228 => 172 | 229 => 173 | n => n, fun | n => n⟩
theorem Tryd.laysSort : Go.Proofs.Lays.n190 Tryd.prog Tryd.laysSort_ren := {
  mixed := by kernel_rfl
  f125 := Tryd.func90.trans (congrArg some (by kernel_rfl))
  f128 := Tryd.func112.trans (congrArg some (by kernel_rfl))
  f129 := Tryd.func113.trans (congrArg some (by kernel_rfl))
  f190 := Tryd.func87.trans (congrArg some (by kernel_rfl))
  f258 := Tryd.func103.trans (congrArg some (by kernel_rfl))
  f302 := Tryd.func115.trans (congrArg some (by kernel_rfl))
  f303 := Tryd.func116.trans (congrArg some (by kernel_rfl))
  f304 := Tryd.func117.trans (congrArg some (by kernel_rfl))
  f305 := Tryd.func118.trans (congrArg some (by kernel_rfl))
  f306 := Tryd.func119.trans (congrArg some (by kernel_rfl))
  f307 := Tryd.func120.trans (congrArg some (by kernel_rfl))
  f308 := Tryd.func121.trans (congrArg some (by kernel_rfl))
  f309 := Tryd.func122.trans (congrArg some (by kernel_rfl))
  f310 := Tryd.func123.trans (congrArg some (by kernel_rfl))
  f329 := Tryd.func125.trans (congrArg some (by kernel_rfl))
  f330 := Tryd.func126.trans (congrArg some (by kernel_rfl))
  f333 := Tryd.func130.trans (congrArg some (by kernel_rfl))
  f334 := Tryd.func131.trans (congrArg some (by kernel_rfl))
  f335 := Tryd.func132.trans (congrArg some (by kernel_rfl))
  f336 := Tryd.func133.trans (congrArg some (by kernel_rfl))
  f344 := Tryd.func135.trans (congrArg some (by kernel_rfl))
  t0 := Tryd.underlying0
  a0 := Tryd.isAgg0
  z0 := Tryd.sizeOf0
  v0 := Tryd.zeroValue0
  t3 := Tryd.underlying3
  a3 := Tryd.isAgg3
  z3 := Tryd.sizeOf3
  v3 := Tryd.zeroValue3
  t4 := Tryd.underlying4
  a4 := Tryd.isAgg4
  z4 := Tryd.sizeOf4
  v4 := Tryd.zeroValue4
  t5 := Tryd.underlying5
  a5 := Tryd.isAgg5
  z5 := Tryd.sizeOf5
  v5 := Tryd.zeroValue5
  t9 := Tryd.underlying9
  a9 := Tryd.isAgg9
  z9 := Tryd.sizeOf9
  v9 := Tryd.zeroValue9
  t31 := Tryd.underlying69
  a31 := Tryd.isAgg69
  z31 := Tryd.sizeOf69
  v31 := Tryd.zeroValue69
  t46 := Tryd.underlying39
  a46 := Tryd.isAgg39
  z46 := Tryd.sizeOf39
  v46 := Tryd.zeroValue39
  t51 := Tryd.underlying135
  a51 := Tryd.isAgg135
  z51 := Tryd.sizeOf135
  v51 := Tryd.zeroValue135
  t53 := Tryd.underlying134
  a53 := Tryd.isAgg134
  z53 := Tryd.sizeOf134
  v53 := Tryd.zeroValue134
  t131 := Tryd.underlying147
  a131 := Tryd.isAgg147
  z131 := Tryd.sizeOf147
  v131 := Tryd.zeroValue147
  t182 := Tryd.underlying142
  a182 := Tryd.isAgg142
  z182 := Tryd.sizeOf142
  v182 := Tryd.zeroValue142
  t183 := Tryd.underlying143
  a183 := Tryd.isAgg143
  z183 := Tryd.sizeOf143
  v183 := Tryd.zeroValue143
  t218 := Tryd.underlying160
  a218 := Tryd.isAgg160
  z218 := Tryd.sizeOf160
  v218 := Tryd.zeroValue160
  t222 := Tryd.underlying164
  a222 := Tryd.isAgg164
  z222 := Tryd.sizeOf164
  v222 := Tryd.zeroValue164
  t228 := Tryd.underlying172
  a228 := Tryd.isAgg172
  z228 := Tryd.sizeOf172
  v228 := Tryd.zeroValue172
  t229 := Tryd.underlying173
  a229 := Tryd.isAgg173
  z229 := Tryd.sizeOf173
  v229 := Tryd.zeroValue173 }
def Tryd.laysCompact_ren : Go.Shelf.Ren := ⟨fun | 194 => 88 | n => n, fun | 31 => 69 | 9 => 9 | 3 => 3 | 4 => 4 | 0 => 0 | n => n, fun | n => n⟩
theorem Tryd.laysCompact : Go.Proofs.Lays.n194 Tryd.prog Tryd.laysCompact_ren := {
  mixed := by kernel_rfl
  f194 := Tryd.func88.trans (congrArg some (by kernel_rfl))
  t0 := Tryd.underlying0
  a0 := Tryd.isAgg0
  z0 := Tryd.sizeOf0
  v0 := Tryd.zeroValue0
  t3 := Tryd.underlying3
  a3 := Tryd.isAgg3
  z3 := Tryd.sizeOf3
  v3 := Tryd.zeroValue3
  t4 := Tryd.underlying4
  a4 := Tryd.isAgg4
  z4 := Tryd.sizeOf4
  v4 := Tryd.zeroValue4
  t9 := Tryd.underlying9
  a9 := Tryd.isAgg9
  z9 := Tryd.sizeOf9
  v9 := Tryd.zeroValue9
  t31 := Tryd.underlying69
  a31 := Tryd.isAgg69
  z31 := Tryd.sizeOf69
  v31 := Tryd.zeroValue69 }
end Go.Proofs
