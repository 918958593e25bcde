/-
  DERIVED: THE SHELF's CONTRACTS AT THIS DUMP, IN PLAIN WORDS (tools/lay-plain.mjs out of 'TrySort.lean', which tools/lay-shelf.mjs wrote): THE SAME DECLARATIONS UNDER THE SAME NAMES: 'import', 'namespace', 'open', 'def', 'theorem' AND NOTHING ELSE: no command of the shelf's: FOR A HAND-IN. Each laying: the table of numbers ('.._ren') and one theorem, a field a fact of the dump's own or the kernel's comparison; each contract: ONE APPLICATION.
-/
import Derived.Shelf.SlGeneric
import Derived.Shelf.SortG.Plain
import Derived.Shelf.SortG.SortNone
import Derived.Ground.SlgnProg
import Derived.Test.YtlelcnlibacnaaaProg
namespace Go.Proofs
open Go.Shelf
def Try.sortI_ren : Go.Shelf.Ren := ⟨fun | 53 => 101 | 64 => 77 | 63 => 123 | 78 => 110 | 79 => 111 | 70 => 134 | 71 => 135 | 72 => 136 | 73 => 137 | 74 => 138 | 75 => 139 | 59 => 140 | 76 => 141 | 77 => 142 | 88 => 148 | 89 => 149 | 90 => 150 | 91 => 151 | 92 => 152 | 68 => 153 | 96 => 154 | n => n, fun | 22 => 23 | 23 => 3 | 3 => 3 | 51 => 80 | 0 => 0 | 67 => 128 | 69 => 130 | 4 => 4 | 61 => 150 | 60 => 149 | 44 => 29 | 5 => 5 | 9 => 9 | 75 => 160 | 79 => 164 | 83 => 166 | 84 => 86 | n => n, fun | n => n⟩
theorem Try.sortI : Go.Proofs.SlLaysN.n53 Try.prog Try.sortI_ren := {
  mixed := by kernel_rfl
  f53 := ⟨Try.f101.name, by decide, Try.func101.trans (congrArg some (by kernel_rfl))⟩
  f59 := ⟨Try.f140.name, by decide, Try.func140.trans (congrArg some (by kernel_rfl))⟩
  f63 := ⟨Try.f123.name, by decide, Try.func123.trans (congrArg some (by kernel_rfl))⟩
  f64 := Try.func77.trans (congrArg some (by kernel_rfl))
  f68 := ⟨Try.f153.name, by decide, Try.func153.trans (congrArg some (by kernel_rfl))⟩
  f70 := ⟨Try.f134.name, by decide, Try.func134.trans (congrArg some (by kernel_rfl))⟩
  f71 := ⟨Try.f135.name, by decide, Try.func135.trans (congrArg some (by kernel_rfl))⟩
  f72 := ⟨Try.f136.name, by decide, Try.func136.trans (congrArg some (by kernel_rfl))⟩
  f73 := ⟨Try.f137.name, by decide, Try.func137.trans (congrArg some (by kernel_rfl))⟩
  f74 := ⟨Try.f138.name, by decide, Try.func138.trans (congrArg some (by kernel_rfl))⟩
  f75 := ⟨Try.f139.name, by decide, Try.func139.trans (congrArg some (by kernel_rfl))⟩
  f76 := ⟨Try.f141.name, by decide, Try.func141.trans (congrArg some (by kernel_rfl))⟩
  f77 := ⟨Try.f142.name, by decide, Try.func142.trans (congrArg some (by kernel_rfl))⟩
  f78 := Try.func110.trans (congrArg some (by kernel_rfl))
  f79 := Try.func111.trans (congrArg some (by kernel_rfl))
  f88 := ⟨Try.f148.name, by decide, Try.func148.trans (congrArg some (by kernel_rfl))⟩
  f89 := Try.func149.trans (congrArg some (by kernel_rfl))
  f90 := Try.func150.trans (congrArg some (by kernel_rfl))
  f91 := ⟨Try.f151.name, by decide, Try.func151.trans (congrArg some (by kernel_rfl))⟩
  f92 := ⟨Try.f152.name, by decide, Try.func152.trans (congrArg some (by kernel_rfl))⟩
  f96 := ⟨Try.f154.name, by decide, Try.func154.trans (congrArg some (by kernel_rfl))⟩
  t0 := Try.underlying0
  a0 := Try.isAgg0
  z0 := Try.sizeOf0
  v0 := Try.zeroValue0
  t3 := Try.underlying3
  a3 := Try.isAgg3
  z3 := Try.sizeOf3
  v3 := Try.zeroValue3
  t4 := Try.underlying4
  a4 := Try.isAgg4
  z4 := Try.sizeOf4
  v4 := Try.zeroValue4
  t5 := Try.underlying5
  a5 := Try.isAgg5
  z5 := Try.sizeOf5
  v5 := Try.zeroValue5
  t9 := Try.underlying9
  a9 := Try.isAgg9
  z9 := Try.sizeOf9
  v9 := Try.zeroValue9
  t22 := Try.underlying23
  a22 := Try.isAgg23
  z22 := Try.sizeOf23
  v22 := Try.zeroValue23
  t23 := Try.underlying3
  a23 := Try.isAgg3
  z23 := Try.sizeOf3
  v23 := Try.zeroValue3
  t44 := Try.underlying29
  a44 := Try.isAgg29
  z44 := Try.sizeOf29
  v44 := Try.zeroValue29
  t51 := Try.underlying80
  a51 := Try.isAgg80
  z51 := Try.sizeOf80
  v51 := Try.zeroValue80
  t60 := Try.underlying149
  a60 := Try.isAgg149
  z60 := Try.sizeOf149
  v60 := Try.zeroValue149
  t61 := Try.underlying150
  a61 := Try.isAgg150
  z61 := Try.sizeOf150
  v61 := Try.zeroValue150
  t67 := Try.underlying128
  a67 := Try.isAgg128
  z67 := Try.sizeOf128
  v67 := Try.zeroValue128
  t69 := Try.underlying130
  a69 := Try.isAgg130
  z69 := Try.sizeOf130
  v69 := Try.zeroValue130
  t75 := Try.underlying160
  a75 := Try.isAgg160
  z75 := Try.sizeOf160
  v75 := Try.zeroValue160
  t79 := Try.underlying164
  a79 := Try.isAgg164
  z79 := Try.sizeOf164
  v79 := Try.zeroValue164
  t83 := Try.underlying166
  a83 := Try.isAgg166
  z83 := Try.sizeOf166
  v83 := Try.zeroValue166
  t84 := Try.underlying86
  a84 := Try.isAgg86
  z84 := Try.sizeOf86
  v84 := Try.zeroValue86 }
end Go.Proofs
