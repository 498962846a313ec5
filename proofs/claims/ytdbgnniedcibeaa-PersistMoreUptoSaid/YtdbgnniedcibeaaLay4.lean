/-
  DERIVED: THE SHELF's CONTRACTS AT THIS DUMP, IN PLAIN WORDS (tools/lay-plain.mjs out of 'YtdbgnniedcibeaaTryLay.lean', which tools/lay-shelf.mjs wrote): THE SAME DECLARATIONS UNDER THE SAME NAMES: 'import', 'namespace', 'open', 'def', 'theorem' AND NOTHING ELSE: no command of the shelf's: FOR A HAND-IN. Each laying: the table of numbers ('.._ren') and one theorem, a field a fact of the dump's own or the kernel's comparison; each contract: ONE APPLICATION.
-/
import Derived.Shelf.SortM.Plain
import Derived.Shelf.SortM.SortNone
import Derived.Test.YtdbgnniedcibeaaProg
namespace Go.Proofs
open Go.Shelf
def Try.sortL_ren : Go.Shelf.Ren := ⟨fun | 5 => 42 | 8 => 47 | 7 => 46 | 19 => 58 | 20 => 59 | 10 => 49 | 11 => 50 | 12 => 51 | 13 => 52 | 14 => 53 | 15 => 54 | 16 => 55 | 17 => 56 | 18 => 57 | 30 => 61 | 31 => 62 | 32 => 63 | 33 => 64 | 34 => 65 | 35 => 66 | 40 => 67 | n => n, fun | 23 => 29 | 25 => 3 | 3 => 3 | 32 => 76 | 22 => 29 | 0 => 0 | 44 => 86 | 46 => 88 | 4 => 4 | 36 => 79 | 35 => 78 | 41 => 83 | 5 => 5 | 9 => 9 | 53 => 89 | 57 => 93 | 63 => 95 | 64 => 96 | n => n, fun | n => n⟩
theorem Try.sortL : Go.Proofs.SlLaysM.n5 Try.prog Try.sortL_ren := {
  mixed := by kernel_rfl
  f5 := ⟨Try.f42.name, by decide, Try.func42.trans (congrArg some (by kernel_rfl))⟩
  f7 := ⟨Try.f46.name, by decide, Try.func46.trans (congrArg some (by kernel_rfl))⟩
  f8 := Try.func47.trans (congrArg some (by kernel_rfl))
  f10 := ⟨Try.f49.name, by decide, Try.func49.trans (congrArg some (by kernel_rfl))⟩
  f11 := ⟨Try.f50.name, by decide, Try.func50.trans (congrArg some (by kernel_rfl))⟩
  f12 := ⟨Try.f51.name, by decide, Try.func51.trans (congrArg some (by kernel_rfl))⟩
  f13 := ⟨Try.f52.name, by decide, Try.func52.trans (congrArg some (by kernel_rfl))⟩
  f14 := ⟨Try.f53.name, by decide, Try.func53.trans (congrArg some (by kernel_rfl))⟩
  f15 := ⟨Try.f54.name, by decide, Try.func54.trans (congrArg some (by kernel_rfl))⟩
  f16 := ⟨Try.f55.name, by decide, Try.func55.trans (congrArg some (by kernel_rfl))⟩
  f17 := ⟨Try.f56.name, by decide, Try.func56.trans (congrArg some (by kernel_rfl))⟩
  f18 := ⟨Try.f57.name, by decide, Try.func57.trans (congrArg some (by kernel_rfl))⟩
  f19 := Try.func58.trans (congrArg some (by kernel_rfl))
  f20 := Try.func59.trans (congrArg some (by kernel_rfl))
  f30 := ⟨Try.f61.name, by decide, Try.func61.trans (congrArg some (by kernel_rfl))⟩
  f31 := Try.func62.trans (congrArg some (by kernel_rfl))
  f32 := Try.func63.trans (congrArg some (by kernel_rfl))
  f33 := ⟨Try.f64.name, by decide, Try.func64.trans (congrArg some (by kernel_rfl))⟩
  f34 := ⟨Try.f65.name, by decide, Try.func65.trans (congrArg some (by kernel_rfl))⟩
  f35 := ⟨Try.f66.name, by decide, Try.func66.trans (congrArg some (by kernel_rfl))⟩
  f40 := ⟨Try.f67.name, by decide, Try.func67.trans (congrArg some (by kernel_rfl))⟩
  t0 := Try.underlying0
  a0 := Try.isAgg0
  z0 := Try.sizeOf0
  v0 := Try.zeroValue0
  t3 := Try.underlying3
  a3 := Try.isAgg3
  z3 := Try.sizeOf3
  v3 := Try.zeroValue3
  t4 := Try.underlying4
  a4 := Try.isAgg4
  z4 := Try.sizeOf4
  v4 := Try.zeroValue4
  t5 := Try.underlying5
  a5 := Try.isAgg5
  z5 := Try.sizeOf5
  v5 := Try.zeroValue5
  t9 := Try.underlying9
  a9 := Try.isAgg9
  z9 := Try.sizeOf9
  v9 := Try.zeroValue9
  t22 := Try.underlying29
  a22 := Try.isAgg29
  z22 := Try.sizeOf29
  v22 := Try.zeroValue29
  t23 := Try.underlying29
  a23 := Try.isAgg29
  z23 := Try.sizeOf29
  v23 := Try.zeroValue29
  t25 := Try.underlying3
  a25 := Try.isAgg3
  z25 := Try.sizeOf3
  v25 := Try.zeroValue3
  t32 := Try.underlying76
  a32 := Try.isAgg76
  z32 := Try.sizeOf76
  v32 := Try.zeroValue76
  t35 := Try.underlying78
  a35 := Try.isAgg78
  z35 := Try.sizeOf78
  v35 := Try.zeroValue78
  t36 := Try.underlying79
  a36 := Try.isAgg79
  z36 := Try.sizeOf79
  v36 := Try.zeroValue79
  t41 := Try.underlying83
  a41 := Try.isAgg83
  z41 := Try.sizeOf83
  v41 := Try.zeroValue83
  t44 := Try.underlying86
  a44 := Try.isAgg86
  z44 := Try.sizeOf86
  v44 := Try.zeroValue86
  t46 := Try.underlying88
  a46 := Try.isAgg88
  z46 := Try.sizeOf88
  v46 := Try.zeroValue88
  t53 := Try.underlying89
  a53 := Try.isAgg89
  z53 := Try.sizeOf89
  v53 := Try.zeroValue89
  t57 := Try.underlying93
  a57 := Try.isAgg93
  z57 := Try.sizeOf93
  v57 := Try.zeroValue93
  t63 := Try.underlying95
  a63 := Try.isAgg95
  z63 := Try.sizeOf95
  v63 := Try.zeroValue95
  t64 := Try.underlying96
  a64 := Try.isAgg96
  z64 := Try.sizeOf96
  v64 := Try.zeroValue96 }
end Go.Proofs
