/- Structures of the shelf at this program: that it bears the library's own bodies. Printed by wip/lay.py. -/
import Derived.Shelf.SlLaysW
import Derived.Test.YtifbmapianddcaaLib
set_option linter.all false
set_option linter.unusedVariables false
set_option linter.unusedSimpArgs false
namespace Go.Proofs.Ytifbmapianddcaa
open Go.Shelf Go.RowKit
def cloneM_ren : Go.Shelf.Ren := ⟨fun | 5 => 95 | 7 => 134 | n => n, fun | 3 => 3 | 4 => 4 | 20 => 20 | 23 => 147 | 25 => 38 | n => n, fun n => n⟩
theorem cloneM : SlLaysW.n5 Try.prog cloneM_ren := {
  mixed := by kernel_rfl,
  f5 := ⟨Try.f95.name, by decide, Try.func95.trans (congrArg some (by kernel_rfl))⟩,
  f7 := Try.func134.trans (congrArg some (by kernel_rfl)),
  t4 := Try.underlying4,
  a4 := Try.isAgg4,
  z4 := Try.sizeOf4,
  v4 := Try.zeroValue4,
  t20 := Try.underlying20,
  a20 := Try.isAgg20,
  z20 := Try.sizeOf20,
  v20 := Try.zeroValue20,
  t23 := Try.underlying147,
  a23 := Try.isAgg147,
  z23 := Try.sizeOf147,
  v23 := Try.zeroValue147 }
end Go.Proofs.Ytifbmapianddcaa
