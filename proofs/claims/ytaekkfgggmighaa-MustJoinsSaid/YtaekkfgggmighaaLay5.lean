/-
  DERIVED: THE SHELF's CONTRACTS AT THIS DUMP, IN PLAIN WORDS (tools/lay-plain.mjs out of 'YtaekkfgggmighaaTryLay.lean', which tools/lay-shelf.mjs wrote): THE SAME DECLARATIONS UNDER THE SAME NAMES: 'import', 'namespace', 'open', 'def', 'theorem' AND NOTHING ELSE: no command of the shelf's: FOR A HAND-IN. Each laying: the table of numbers ('.._ren') and one theorem, a field a fact of the dump's own or the kernel's comparison; each contract: ONE APPLICATION.
-/
import Derived.Shelf.SlMaps.Copy
import Derived.Shelf.SlMaps.Equal
import Derived.Test.YtaekkfgggmighaaProg
namespace Go.Proofs
open Go.Shelf
def Try.copyL_ren : Go.Shelf.Ren := ⟨fun | 5 => 59 | n => n, fun | 23 => 26 | 24 => 26 | 26 => 3 | 27 => 3 | 0 => 0 | 4 => 4 | n => n, fun | n => n⟩
theorem Try.copyL : Go.Proofs.SlLaysX.n5 Try.prog Try.copyL_ren := {
  mixed := by kernel_rfl
  f5 := ⟨Try.f59.name, by decide, Try.func59.trans (congrArg some (by kernel_rfl))⟩
  t0 := Try.underlying0
  a0 := Try.isAgg0
  z0 := Try.sizeOf0
  v0 := Try.zeroValue0
  t4 := Try.underlying4
  a4 := Try.isAgg4
  z4 := Try.sizeOf4
  v4 := Try.zeroValue4
  t23 := Try.underlying26
  a23 := Try.isAgg26
  z23 := Try.sizeOf26
  v23 := Try.zeroValue26
  t24 := Try.underlying26
  a24 := Try.isAgg26
  z24 := Try.sizeOf26
  v24 := Try.zeroValue26
  a26 := Try.isAgg3
  z26 := Try.sizeOf3
  a27 := Try.isAgg3
  z27 := Try.sizeOf3 }
def Try.equalL_ren : Go.Shelf.Ren := ⟨fun | 6 => 50 | n => n, fun | 23 => 26 | 24 => 26 | 26 => 3 | 27 => 3 | 4 => 4 | 3 => 3 | 0 => 0 | 36 => 52 | n => n, fun | n => n⟩
theorem Try.equalL : Go.Proofs.SlLaysEq.n6 Try.prog Try.equalL_ren := {
  mixed := by kernel_rfl
  f6 := ⟨Try.f50.name, by decide, Try.func50.trans (congrArg some (by kernel_rfl))⟩
  t0 := Try.underlying0
  a0 := Try.isAgg0
  z0 := Try.sizeOf0
  v0 := Try.zeroValue0
  t3 := Try.underlying3
  a3 := Try.isAgg3
  z3 := Try.sizeOf3
  v3 := Try.zeroValue3
  t4 := Try.underlying4
  a4 := Try.isAgg4
  z4 := Try.sizeOf4
  v4 := Try.zeroValue4
  t23 := Try.underlying26
  a23 := Try.isAgg26
  z23 := Try.sizeOf26
  v23 := Try.zeroValue26
  t24 := Try.underlying26
  a24 := Try.isAgg26
  z24 := Try.sizeOf26
  v24 := Try.zeroValue26
  a26 := Try.isAgg3
  z26 := Try.sizeOf3
  a27 := Try.isAgg3
  z27 := Try.sizeOf3
  t36 := Try.underlying52
  a36 := Try.isAgg52
  z36 := Try.sizeOf52 }
end Go.Proofs
