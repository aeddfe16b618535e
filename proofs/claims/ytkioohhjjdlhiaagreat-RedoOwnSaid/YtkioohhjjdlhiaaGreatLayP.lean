/- Structures of the shelf at this program: that it bears the library's own bodies. Printed by wip/lay.py. -/
import Derived.Shelf.SlLaysW
import Derived.Test.YtkioohhjjdlhiaaGreatLib
set_option linter.all false
set_option linter.unusedVariables false
set_option linter.unusedSimpArgs false
namespace Go.Proofs.YtkioohhjjdlhiaaGreat
open Go.Shelf Go.RowKit
def cloneP_ren : Go.Shelf.Ren := ⟨fun | 5 => 74 | 7 => 120 | n => n, fun | 3 => 81 | 4 => 4 | 20 => 20 | 23 => 130 | 25 => 152 | n => n, fun n => n⟩
theorem cloneP : SlLaysW.n5 Tryz.prog cloneP_ren := {
 mixed := by kernel_rfl,
 f5 := ⟨Tryz.f74.name, by decide, Tryz.func74.trans (congrArg some (by kernel_rfl))⟩,
 f7 := Tryz.func120.trans (congrArg some (by kernel_rfl)),
 t4 := Tryz.underlying4,
 a4 := Tryz.isAgg4,
 z4 := Tryz.sizeOf4,
 v4 := Tryz.zeroValue4,
 t20 := Tryz.underlying20,
 a20 := Tryz.isAgg20,
 z20 := Tryz.sizeOf20,
 v20 := Tryz.zeroValue20,
 t23 := Tryz.underlying130,
 a23 := Tryz.isAgg130,
 z23 := Tryz.sizeOf130,
 v23 := Tryz.zeroValue130 }
end Go.Proofs.YtkioohhjjdlhiaaGreat
