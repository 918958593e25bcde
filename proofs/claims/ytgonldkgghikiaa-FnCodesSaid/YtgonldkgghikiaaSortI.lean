/-
  DERIVED: THE SHELF's CONTRACTS AT THIS DUMP, IN PLAIN WORDS (tools/lay-plain.mjs out of 'TrySort.lean', which tools/lay-shelf.mjs wrote): THE SAME DECLARATIONS UNDER THE SAME NAMES: 'import', 'namespace', 'open', 'def', 'theorem' AND NOTHING ELSE: no command of the shelf's: FOR A HAND-IN. Each laying: the table of numbers ('.._ren') and one theorem, a field a fact of the dump's own or the kernel's comparison; each contract: ONE APPLICATION.
-/
import Derived.Shelf.SlGeneric
import Derived.Shelf.SortG.Plain
import Derived.Shelf.SortG.SortNone
import Derived.Ground.SlgnProg
import Derived.Test.YtgonldkgghikiaaProg
namespace Go.Proofs
open Go.Shelf
def Try.sortI_ren : Go.Shelf.Ren := ⟨fun | 53 => 57 | 64 => 68 | 63 => 67 | 78 => 85 | 79 => 86 | 70 => 76 | 71 => 77 | 72 => 78 | 73 => 79 | 74 => 80 | 75 => 81 | 59 => 82 | 76 => 83 | 77 => 84 | 88 => 87 | 89 => 88 | 90 => 89 | 91 => 90 | 92 => 91 | 68 => 92 | 96 => 93 | n => n, fun | 22 => 22 | 23 => 3 | 3 => 3 | 51 => 44 | 0 => 0 | 67 => 93 | 69 => 75 | 4 => 4 | 61 => 96 | 60 => 95 | 44 => 99 | 5 => 5 | 9 => 9 | 75 => 101 | 79 => 105 | 83 => 107 | 84 => 35 | n => n, fun | n => n⟩
theorem Try.sortI : Go.Proofs.SlLaysN.n53 Try.prog Try.sortI_ren := {
  mixed := by kernel_rfl
  f53 := ⟨Try.f57.name, by decide, Try.func57.trans (congrArg some (by kernel_rfl))⟩
  f59 := ⟨Try.f82.name, by decide, Try.func82.trans (congrArg some (by kernel_rfl))⟩
  f63 := ⟨Try.f67.name, by decide, Try.func67.trans (congrArg some (by kernel_rfl))⟩
  f64 := Try.func68.trans (congrArg some (by kernel_rfl))
  f68 := ⟨Try.f92.name, by decide, Try.func92.trans (congrArg some (by kernel_rfl))⟩
  f70 := ⟨Try.f76.name, by decide, Try.func76.trans (congrArg some (by kernel_rfl))⟩
  f71 := ⟨Try.f77.name, by decide, Try.func77.trans (congrArg some (by kernel_rfl))⟩
  f72 := ⟨Try.f78.name, by decide, Try.func78.trans (congrArg some (by kernel_rfl))⟩
  f73 := ⟨Try.f79.name, by decide, Try.func79.trans (congrArg some (by kernel_rfl))⟩
  f74 := ⟨Try.f80.name, by decide, Try.func80.trans (congrArg some (by kernel_rfl))⟩
  f75 := ⟨Try.f81.name, by decide, Try.func81.trans (congrArg some (by kernel_rfl))⟩
  f76 := ⟨Try.f83.name, by decide, Try.func83.trans (congrArg some (by kernel_rfl))⟩
  f77 := ⟨Try.f84.name, by decide, Try.func84.trans (congrArg some (by kernel_rfl))⟩
  f78 := Try.func85.trans (congrArg some (by kernel_rfl))
  f79 := Try.func86.trans (congrArg some (by kernel_rfl))
  f88 := ⟨Try.f87.name, by decide, Try.func87.trans (congrArg some (by kernel_rfl))⟩
  f89 := Try.func88.trans (congrArg some (by kernel_rfl))
  f90 := Try.func89.trans (congrArg some (by kernel_rfl))
  f91 := ⟨Try.f90.name, by decide, Try.func90.trans (congrArg some (by kernel_rfl))⟩
  f92 := ⟨Try.f91.name, by decide, Try.func91.trans (congrArg some (by kernel_rfl))⟩
  f96 := ⟨Try.f93.name, by decide, Try.func93.trans (congrArg some (by kernel_rfl))⟩
  t0 := Try.underlying0
  a0 := Try.isAgg0
  z0 := Try.sizeOf0
  v0 := Try.zeroValue0
  t3 := Try.underlying3
  a3 := Try.isAgg3
  z3 := Try.sizeOf3
  v3 := Try.zeroValue3
  t4 := Try.underlying4
  a4 := Try.isAgg4
  z4 := Try.sizeOf4
  v4 := Try.zeroValue4
  t5 := Try.underlying5
  a5 := Try.isAgg5
  z5 := Try.sizeOf5
  v5 := Try.zeroValue5
  t9 := Try.underlying9
  a9 := Try.isAgg9
  z9 := Try.sizeOf9
  v9 := Try.zeroValue9
  t22 := Try.underlying22
  a22 := Try.isAgg22
  z22 := Try.sizeOf22
  v22 := Try.zeroValue22
  t23 := Try.underlying3
  a23 := Try.isAgg3
  z23 := Try.sizeOf3
  v23 := Try.zeroValue3
  t44 := Try.underlying99
  a44 := Try.isAgg99
  z44 := Try.sizeOf99
  v44 := Try.zeroValue99
  t51 := Try.underlying44
  a51 := Try.isAgg44
  z51 := Try.sizeOf44
  v51 := Try.zeroValue44
  t60 := Try.underlying95
  a60 := Try.isAgg95
  z60 := Try.sizeOf95
  v60 := Try.zeroValue95
  t61 := Try.underlying96
  a61 := Try.isAgg96
  z61 := Try.sizeOf96
  v61 := Try.zeroValue96
  t67 := Try.underlying93
  a67 := Try.isAgg93
  z67 := Try.sizeOf93
  v67 := Try.zeroValue93
  t69 := Try.underlying75
  a69 := Try.isAgg75
  z69 := Try.sizeOf75
  v69 := Try.zeroValue75
  t75 := Try.underlying101
  a75 := Try.isAgg101
  z75 := Try.sizeOf101
  v75 := Try.zeroValue101
  t79 := Try.underlying105
  a79 := Try.isAgg105
  z79 := Try.sizeOf105
  v79 := Try.zeroValue105
  t83 := Try.underlying107
  a83 := Try.isAgg107
  z83 := Try.sizeOf107
  v83 := Try.zeroValue107
  t84 := Try.underlying35
  a84 := Try.isAgg35
  z84 := Try.sizeOf35
  v84 := Try.zeroValue35 }
end Go.Proofs
