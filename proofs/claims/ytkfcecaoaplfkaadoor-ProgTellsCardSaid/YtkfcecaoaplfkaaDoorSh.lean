/-
  DERIVED: THE SHELF's CONTRACTS AT THIS DUMP, IN PLAIN WORDS (tools/lay-plain.mjs out of 'YtkfcecaoaplfkaaDoorSh.lean', which tools/lay-shelf.mjs wrote): THE SAME DECLARATIONS UNDER THE SAME NAMES: 'import', 'namespace', 'open', 'def', 'theorem' AND NOTHING ELSE: no command of the shelf's: FOR A HAND-IN. Each laying: the table of numbers ('.._ren') and one theorem, a field a fact of the dump's own or the kernel's comparison; each contract: ONE APPLICATION.
-/
import Derived.Test.YtkfcecaoaplfkaaDoorChecked
import Derived.Shelf.Sort.Plain
import Derived.Shelf.Slices.In.SortNone
namespace Go.Proofs
open Go.Shelf
def Tryd.lays189_ren : Go.Shelf.Ren := ⟨fun | 189 => 40 | 125 => 45 | 257 => 44 | 128 => 57 | 129 => 58 | 294 => 48 | 295 => 49 | 296 => 50 | 297 => 51 | 298 => 52 | 299 => 53 | 216 => 54 | 300 => 55 | 301 => 56 | 328 => 59 | 329 => 60 | 330 => 61 | 331 => 62 | 332 => 63 | 215 => 64 | 343 => 65 | n => n, fun | 28 => 32 | 3 => 3 | 46 => 72 | 0 => 0 | 51 => 66 | 53 => 94 | 4 => 4 | 183 => 86 | 182 => 85 | 131 => 90 | 5 => 5 | 9 => 9 | 218 => 97 | 222 => 101 | 228 => 103 | 229 => 104 | n => n, fun | n => n⟩
theorem Tryd.lays189 : Go.Proofs.Lays.n189 Tryd.prog Tryd.lays189_ren := {
  mixed := by kernel_rfl
  f125 := Tryd.func45.trans (congrArg some (by kernel_rfl))
  f128 := Tryd.func57.trans (congrArg some (by kernel_rfl))
  f129 := Tryd.func58.trans (congrArg some (by kernel_rfl))
  f189 := Tryd.func40.trans (congrArg some (by kernel_rfl))
  f215 := Tryd.func64.trans (congrArg some (by kernel_rfl))
  f216 := Tryd.func54.trans (congrArg some (by kernel_rfl))
  f257 := Tryd.func44.trans (congrArg some (by kernel_rfl))
  f294 := Tryd.func48.trans (congrArg some (by kernel_rfl))
  f295 := Tryd.func49.trans (congrArg some (by kernel_rfl))
  f296 := Tryd.func50.trans (congrArg some (by kernel_rfl))
  f297 := Tryd.func51.trans (congrArg some (by kernel_rfl))
  f298 := Tryd.func52.trans (congrArg some (by kernel_rfl))
  f299 := Tryd.func53.trans (congrArg some (by kernel_rfl))
  f300 := Tryd.func55.trans (congrArg some (by kernel_rfl))
  f301 := Tryd.func56.trans (congrArg some (by kernel_rfl))
  f328 := Tryd.func59.trans (congrArg some (by kernel_rfl))
  f329 := Tryd.func60.trans (congrArg some (by kernel_rfl))
  f330 := Tryd.func61.trans (congrArg some (by kernel_rfl))
  f331 := Tryd.func62.trans (congrArg some (by kernel_rfl))
  f332 := Tryd.func63.trans (congrArg some (by kernel_rfl))
  f343 := Tryd.func65.trans (congrArg some (by kernel_rfl))
  t0 := Tryd.underlying0
  a0 := Tryd.isAgg0
  z0 := Tryd.sizeOf0
  v0 := Tryd.zeroValue0
  t3 := Tryd.underlying3
  a3 := Tryd.isAgg3
  z3 := Tryd.sizeOf3
  v3 := Tryd.zeroValue3
  t4 := Tryd.underlying4
  a4 := Tryd.isAgg4
  z4 := Tryd.sizeOf4
  v4 := Tryd.zeroValue4
  t5 := Tryd.underlying5
  a5 := Tryd.isAgg5
  z5 := Tryd.sizeOf5
  v5 := Tryd.zeroValue5
  t9 := Tryd.underlying9
  a9 := Tryd.isAgg9
  z9 := Tryd.sizeOf9
  v9 := Tryd.zeroValue9
  t28 := Tryd.underlying32
  a28 := Tryd.isAgg32
  z28 := Tryd.sizeOf32
  v28 := Tryd.zeroValue32
  t46 := Tryd.underlying72
  a46 := Tryd.isAgg72
  z46 := Tryd.sizeOf72
  v46 := Tryd.zeroValue72
  t51 := Tryd.underlying66
  a51 := Tryd.isAgg66
  z51 := Tryd.sizeOf66
  v51 := Tryd.zeroValue66
  t53 := Tryd.underlying94
  a53 := Tryd.isAgg94
  z53 := Tryd.sizeOf94
  v53 := Tryd.zeroValue94
  t131 := Tryd.underlying90
  a131 := Tryd.isAgg90
  z131 := Tryd.sizeOf90
  v131 := Tryd.zeroValue90
  t182 := Tryd.underlying85
  a182 := Tryd.isAgg85
  z182 := Tryd.sizeOf85
  v182 := Tryd.zeroValue85
  t183 := Tryd.underlying86
  a183 := Tryd.isAgg86
  z183 := Tryd.sizeOf86
  v183 := Tryd.zeroValue86
  t218 := Tryd.underlying97
  a218 := Tryd.isAgg97
  z218 := Tryd.sizeOf97
  v218 := Tryd.zeroValue97
  t222 := Tryd.underlying101
  a222 := Tryd.isAgg101
  z222 := Tryd.sizeOf101
  v222 := Tryd.zeroValue101
  t228 := Tryd.underlying103
  a228 := Tryd.isAgg103
  z228 := Tryd.sizeOf103
  v228 := Tryd.zeroValue103
  t229 := Tryd.underlying104
  a229 := Tryd.isAgg104
  z229 := Tryd.sizeOf104
  v229 := Tryd.zeroValue104 }
end Go.Proofs
