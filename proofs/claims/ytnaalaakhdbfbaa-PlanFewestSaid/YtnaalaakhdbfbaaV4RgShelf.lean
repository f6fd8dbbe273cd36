/-
 DERIVED: THE SHELF's CONTRACTS AT THIS DUMP, IN PLAIN WORDS (tools/lay-plain.mjs out of 'YtnaalaakhdbfbaaRgShelf.lean', which tools/lay-shelf.mjs wrote): THE SAME DECLARATIONS UNDER THE SAME NAMES: 'import', 'namespace', 'open', 'def', 'theorem' AND NOTHING ELSE: no command of the shelf's: FOR A HAND-IN. Each laying: the table of numbers ('.._ren') and one theorem, a field a fact of the dump's own or the kernel's comparison; each contract: ONE APPLICATION.
-/
import Derived.Shelf.SlSortCmp.WholeK
import Derived.Shelf.SlSortCmp.NoneTotal
import Derived.Test.YtnaalaakhdbfbaaProg
set_option linter.unusedVariables false
set_option linter.unusedSimpArgs false
namespace Go.Proofs
open Go.Shelf
def Try.sortSpan_ren : Go.Shelf.Ren := ⟨fun | 6 => 50 | 15 => 65 | 14 => 64 | 28 => 81 | 29 => 82 | 20 => 73 | 21 => 74 | 22 => 75 | 23 => 76 | 24 => 77 | 25 => 78 | 26 => 79 | 27 => 80 | 46 => 83 | 47 => 84 | 48 => 85 | 49 => 86 | 50 => 87 | 57 => 88 | n => n, fun | 22 => 22 | 24 => 48 | 25 => 77 | 3 => 3 | 39 => 89 | 0 => 0 | 53 => 105 | 55 => 107 | 4 => 4 | 46 => 99 | 45 => 98 | 50 => 93 | 5 => 5 | 9 => 9 | 66 => 108 | 70 => 112 | 76 => 114 | 77 => 115 | n => n, fun | n => n⟩
theorem Try.sortSpan : Go.Proofs.SlLaysF0.n6 Try.prog Try.sortSpan_ren := {
 mixed := by kernel_rfl
 f6 := ⟨Try.f50.name, by decide, Try.func50.trans (congrArg some (by kernel_rfl))⟩
 f14 := ⟨Try.f64.name, by decide, Try.func64.trans (congrArg some (by kernel_rfl))⟩
 f15 := Try.func65.trans (congrArg some (by kernel_rfl))
 f20 := ⟨Try.f73.name, by decide, Try.func73.trans (congrArg some (by kernel_rfl))⟩
 f21 := ⟨Try.f74.name, by decide, Try.func74.trans (congrArg some (by kernel_rfl))⟩
 f22 := ⟨Try.f75.name, by decide, Try.func75.trans (congrArg some (by kernel_rfl))⟩
 f23 := ⟨Try.f76.name, by decide, Try.func76.trans (congrArg some (by kernel_rfl))⟩
 f24 := ⟨Try.f77.name, by decide, Try.func77.trans (congrArg some (by kernel_rfl))⟩
 f25 := ⟨Try.f78.name, by decide, Try.func78.trans (congrArg some (by kernel_rfl))⟩
 f26 := ⟨Try.f79.name, by decide, Try.func79.trans (congrArg some (by kernel_rfl))⟩
 f27 := ⟨Try.f80.name, by decide, Try.func80.trans (congrArg some (by kernel_rfl))⟩
 f28 := Try.func81.trans (congrArg some (by kernel_rfl))
 f29 := Try.func82.trans (congrArg some (by kernel_rfl))
 f46 := ⟨Try.f83.name, by decide, Try.func83.trans (congrArg some (by kernel_rfl))⟩
 f47 := Try.func84.trans (congrArg some (by kernel_rfl))
 f48 := Try.func85.trans (congrArg some (by kernel_rfl))
 f49 := ⟨Try.f86.name, by decide, Try.func86.trans (congrArg some (by kernel_rfl))⟩
 f50 := ⟨Try.f87.name, by decide, Try.func87.trans (congrArg some (by kernel_rfl))⟩
 f57 := ⟨Try.f88.name, by decide, Try.func88.trans (congrArg some (by kernel_rfl))⟩
 t0 := Try.underlying0
 a0 := Try.isAgg0
 z0 := Try.sizeOf0
 v0 := Try.zeroValue0
 t3 := Try.underlying3
 a3 := Try.isAgg3
 z3 := Try.sizeOf3
 v3 := Try.zeroValue3
 t4 := Try.underlying4
 a4 := Try.isAgg4
 z4 := Try.sizeOf4
 v4 := Try.zeroValue4
 t5 := Try.underlying5
 a5 := Try.isAgg5
 z5 := Try.sizeOf5
 v5 := Try.zeroValue5
 t9 := Try.underlying9
 a9 := Try.isAgg9
 z9 := Try.sizeOf9
 v9 := Try.zeroValue9
 t22 := Try.underlying22
 a22 := Try.isAgg22
 z22 := Try.sizeOf22
 v22 := Try.zeroValue22
 t25 := Try.underlying77
 a25 := Try.isAgg77
 z25 := Try.sizeOf77
 v25 := Try.zeroValue77
 t39 := Try.underlying89
 a39 := Try.isAgg89
 z39 := Try.sizeOf89
 v39 := Try.zeroValue89
 t45 := Try.underlying98
 a45 := Try.isAgg98
 z45 := Try.sizeOf98
 v45 := Try.zeroValue98
 t46 := Try.underlying99
 a46 := Try.isAgg99
 z46 := Try.sizeOf99
 v46 := Try.zeroValue99
 t50 := Try.underlying93
 a50 := Try.isAgg93
 z50 := Try.sizeOf93
 v50 := Try.zeroValue93
 t53 := Try.underlying105
 a53 := Try.isAgg105
 z53 := Try.sizeOf105
 v53 := Try.zeroValue105
 t55 := Try.underlying107
 a55 := Try.isAgg107
 z55 := Try.sizeOf107
 v55 := Try.zeroValue107
 t66 := Try.underlying108
 a66 := Try.isAgg108
 z66 := Try.sizeOf108
 v66 := Try.zeroValue108
 t70 := Try.underlying112
 a70 := Try.isAgg112
 z70 := Try.sizeOf112
 v70 := Try.zeroValue112
 t76 := Try.underlying114
 a76 := Try.isAgg114
 z76 := Try.sizeOf114
 v76 := Try.zeroValue114
 t77 := Try.underlying115
 a77 := Try.isAgg115
 z77 := Try.sizeOf115
 v77 := Try.zeroValue115 }
end Go.Proofs
