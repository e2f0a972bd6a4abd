/- The tie's facts: regions. -/
import Derived.Test.YtakkdddfihpeiaaGreatDoorTieC
import Derived.LaidByTextLater
import Derived.LaidOnce
import Derived.SevenTiedAt
set_option linter.all false

section
namespace Go.Proofs.YtakkdddfihpeiaaGreatDoor
open Go
set_option maxRecDepth 100000
theorem vB3 : vcode.regionsFit Tryz.prog [] = true := by kernel_rfl
end Go.Proofs.YtakkdddfihpeiaaGreatDoor
end
