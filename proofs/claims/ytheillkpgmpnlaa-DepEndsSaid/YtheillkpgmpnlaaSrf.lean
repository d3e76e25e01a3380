/-
  DERIVED: THE SHELF's CONTRACTS AT THIS DUMP, IN PLAIN WORDS (tools/lay-plain.mjs out of 'YtheillkpgmpnlaaSrf.lean', which tools/lay-shelf.mjs wrote): THE SAME DECLARATIONS UNDER THE SAME NAMES: 'import', 'namespace', 'open', 'def', 'theorem' AND NOTHING ELSE: no command of the shelf's: FOR A HAND-IN. Each laying: the table of numbers ('.._ren') and one theorem, a field a fact of the dump's own or the kernel's comparison; each contract: ONE APPLICATION.
-/
import Derived.Shelf.SlGeneric
import Derived.Shelf.SlSortCmp.NoneTotal
import Derived.Ground.SlsfProg
import Derived.Test.YtheillkpgmpnlaaProg
namespace Go.Proofs
open Go.Shelf
def Try.laysSF_ren : Go.Shelf.Ren := ⟨fun | 6 => 24 | 15 => 47 | 14 => 46 | 28 => 71 | 29 => 72 | 20 => 63 | 21 => 64 | 22 => 65 | 23 => 66 | 24 => 67 | 25 => 68 | 26 => 69 | 27 => 70 | 46 => 86 | 47 => 87 | 48 => 88 | 49 => 89 | 50 => 90 | 57 => 94 | n => n, fun | 22 => 28 | 24 => 37 | 25 => 48 | 3 => 3 | 39 => 69 | 0 => 0 | 53 => 92 | 55 => 94 | 4 => 4 | 46 => 85 | 45 => 84 | 50 => 89 | 5 => 5 | 9 => 9 | 66 => 105 | 70 => 109 | 76 => 113 | 77 => 114 | n => n, fun | n => n⟩
theorem Try.laysSF : Go.Proofs.SlLaysF0.n6 Try.prog Try.laysSF_ren := {
  mixed := by kernel_rfl
  f6 := ⟨Try.f24.name, by decide, Try.func24.trans (congrArg some (by kernel_rfl))⟩
  f14 := ⟨Try.f46.name, by decide, Try.func46.trans (congrArg some (by kernel_rfl))⟩
  f15 := Try.func47.trans (congrArg some (by kernel_rfl))
  f20 := ⟨Try.f63.name, by decide, Try.func63.trans (congrArg some (by kernel_rfl))⟩
  f21 := ⟨Try.f64.name, by decide, Try.func64.trans (congrArg some (by kernel_rfl))⟩
  f22 := ⟨Try.f65.name, by decide, Try.func65.trans (congrArg some (by kernel_rfl))⟩
  f23 := ⟨Try.f66.name, by decide, Try.func66.trans (congrArg some (by kernel_rfl))⟩
  f24 := ⟨Try.f67.name, by decide, Try.func67.trans (congrArg some (by kernel_rfl))⟩
  f25 := ⟨Try.f68.name, by decide, Try.func68.trans (congrArg some (by kernel_rfl))⟩
  f26 := ⟨Try.f69.name, by decide, Try.func69.trans (congrArg some (by kernel_rfl))⟩
  f27 := ⟨Try.f70.name, by decide, Try.func70.trans (congrArg some (by kernel_rfl))⟩
  f28 := Try.func71.trans (congrArg some (by kernel_rfl))
  f29 := Try.func72.trans (congrArg some (by kernel_rfl))
  f46 := ⟨Try.f86.name, by decide, Try.func86.trans (congrArg some (by kernel_rfl))⟩
  f47 := Try.func87.trans (congrArg some (by kernel_rfl))
  f48 := Try.func88.trans (congrArg some (by kernel_rfl))
  f49 := ⟨Try.f89.name, by decide, Try.func89.trans (congrArg some (by kernel_rfl))⟩
  f50 := ⟨Try.f90.name, by decide, Try.func90.trans (congrArg some (by kernel_rfl))⟩
  f57 := ⟨Try.f94.name, by decide, Try.func94.trans (congrArg some (by kernel_rfl))⟩
  t0 := Try.underlying0
  a0 := Try.isAgg0
  z0 := Try.sizeOf0
  v0 := Try.zeroValue0
  t3 := Try.underlying3
  a3 := Try.isAgg3
  z3 := Try.sizeOf3
  v3 := Try.zeroValue3
  t4 := Try.underlying4
  a4 := Try.isAgg4
  z4 := Try.sizeOf4
  v4 := Try.zeroValue4
  t5 := Try.underlying5
  a5 := Try.isAgg5
  z5 := Try.sizeOf5
  v5 := Try.zeroValue5
  t9 := Try.underlying9
  a9 := Try.isAgg9
  z9 := Try.sizeOf9
  v9 := Try.zeroValue9
  t22 := Try.underlying28
  a22 := Try.isAgg28
  z22 := Try.sizeOf28
  v22 := Try.zeroValue28
  t25 := Try.underlying48
  a25 := Try.isAgg48
  z25 := Try.sizeOf48
  v25 := Try.zeroValue48
  t39 := Try.underlying69
  a39 := Try.isAgg69
  z39 := Try.sizeOf69
  v39 := Try.zeroValue69
  t45 := Try.underlying84
  a45 := Try.isAgg84
  z45 := Try.sizeOf84
  v45 := Try.zeroValue84
  t46 := Try.underlying85
  a46 := Try.isAgg85
  z46 := Try.sizeOf85
  v46 := Try.zeroValue85
  t50 := Try.underlying89
  a50 := Try.isAgg89
  z50 := Try.sizeOf89
  v50 := Try.zeroValue89
  t53 := Try.underlying92
  a53 := Try.isAgg92
  z53 := Try.sizeOf92
  v53 := Try.zeroValue92
  t55 := Try.underlying94
  a55 := Try.isAgg94
  z55 := Try.sizeOf94
  v55 := Try.zeroValue94
  t66 := Try.underlying105
  a66 := Try.isAgg105
  z66 := Try.sizeOf105
  v66 := Try.zeroValue105
  t70 := Try.underlying109
  a70 := Try.isAgg109
  z70 := Try.sizeOf109
  v70 := Try.zeroValue109
  t76 := Try.underlying113
  a76 := Try.isAgg113
  z76 := Try.sizeOf113
  v76 := Try.zeroValue113
  t77 := Try.underlying114
  a77 := Try.isAgg114
  z77 := Try.sizeOf114
  v77 := Try.zeroValue114 }
theorem Try.laysSF_ok : SlLaysF0.n6 Try.prog Try.laysSF_ren := Try.laysSF
end Go.Proofs
