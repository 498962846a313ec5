/-
  DERIVED: THE SHELF's CONTRACTS AT THIS DUMP, IN PLAIN WORDS (tools/lay-plain.mjs out of 'YtjckghdgogkeaaaTryLay.lean', which tools/lay-shelf.mjs wrote): THE SAME DECLARATIONS UNDER THE SAME NAMES: 'import', 'namespace', 'open', 'def', 'theorem' AND NOTHING ELSE: no command of the shelf's: FOR A HAND-IN. Each laying: the table of numbers ('.._ren') and one theorem, a field a fact of the dump's own or the kernel's comparison; each contract: ONE APPLICATION.
-/
import Derived.Shelf.SlMaps.Clone
import Derived.Shelf.SlMaps.Equal
import Derived.Test.YtjckghdgogkeaaaProg
namespace Go.Proofs
open Go.Shelf
def Try.cloneL_ren : Go.Shelf.Ren := ⟨fun | 5 => 47 | 7 => 54 | n => n, fun | 23 => 29 | 25 => 3 | 3 => 3 | 4 => 4 | 20 => 20 | n => n, fun | n => n⟩
theorem Try.cloneL : Go.Proofs.SlLaysW.n5 Try.prog Try.cloneL_ren := {
  mixed := by kernel_rfl
  f5 := ⟨Try.f47.name, by decide, Try.func47.trans (congrArg some (by kernel_rfl))⟩
  f7 := Try.func54.trans (congrArg some (by kernel_rfl))
  t4 := Try.underlying4
  a4 := Try.isAgg4
  z4 := Try.sizeOf4
  v4 := Try.zeroValue4
  t20 := Try.underlying20
  a20 := Try.isAgg20
  z20 := Try.sizeOf20
  v20 := Try.zeroValue20
  t23 := Try.underlying29
  a23 := Try.isAgg29
  z23 := Try.sizeOf29
  v23 := Try.zeroValue29 }
def Try.equalL_ren : Go.Shelf.Ren := ⟨fun | 6 => 37 | n => n, fun | 23 => 29 | 24 => 29 | 26 => 3 | 27 => 3 | 4 => 4 | 3 => 3 | 0 => 0 | 36 => 52 | n => n, fun | n => n⟩
theorem Try.equalL : Go.Proofs.SlLaysEq.n6 Try.prog Try.equalL_ren := {
  mixed := by kernel_rfl
  f6 := ⟨Try.f37.name, by decide, Try.func37.trans (congrArg some (by kernel_rfl))⟩
  t0 := Try.underlying0
  a0 := Try.isAgg0
  z0 := Try.sizeOf0
  v0 := Try.zeroValue0
  t3 := Try.underlying3
  a3 := Try.isAgg3
  z3 := Try.sizeOf3
  v3 := Try.zeroValue3
  t4 := Try.underlying4
  a4 := Try.isAgg4
  z4 := Try.sizeOf4
  v4 := Try.zeroValue4
  t23 := Try.underlying29
  a23 := Try.isAgg29
  z23 := Try.sizeOf29
  v23 := Try.zeroValue29
  t24 := Try.underlying29
  a24 := Try.isAgg29
  z24 := Try.sizeOf29
  v24 := Try.zeroValue29
  a26 := Try.isAgg3
  z26 := Try.sizeOf3
  a27 := Try.isAgg3
  z27 := Try.sizeOf3
  t36 := Try.underlying52
  a36 := Try.isAgg52
  z36 := Try.sizeOf52 }
end Go.Proofs
