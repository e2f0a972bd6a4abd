/- The tie's facts: calls. -/
import Derived.Test.YtakkdddfihpeiaaGreatDoorTieC
import Derived.LaidByTextLater
import Derived.LaidOnce
import Derived.SevenTiedAt
set_option linter.all false

section
namespace Go.Proofs.YtakkdddfihpeiaaGreatDoor
open Go
set_option maxRecDepth 100000
theorem vB1 : vcode.unfollowedBeside Tryz.prog = false := by kernel_rfl
theorem vB2 : (vcode.tempsApart 0).isSome = true := by kernel_rfl
theorem vB4 : (((vcode.storedByHandle Tryz.prog).isEmpty || ((Tryz.prog.funcNamed "(internal/reflectlite.rtype).Elem").any fun h => (Tryz.prog.funcs[h]?).any fun fn => fn.body.isNone && !entryCalls fn)) &&
  ((vcode.storedByHandle Tryz.prog).all fun v => Tryz.prog.globalNamed "errors.errorType" == some v)) = true := by kernel_rfl
end Go.Proofs.YtakkdddfihpeiaaGreatDoor
end
