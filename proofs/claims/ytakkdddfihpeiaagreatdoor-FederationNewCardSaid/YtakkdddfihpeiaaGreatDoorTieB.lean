/- The tie's facts: the run. -/
import Derived.Test.YtakkdddfihpeiaaGreatDoorTieA
import Derived.LaidByTextLater
import Derived.LaidOnce
import Derived.SevenTiedAt
set_option linter.all false

section
namespace Go.Proofs.YtakkdddfihpeiaaGreatDoor
open Go
set_option maxRecDepth 100000
theorem ti7 : ∀ os tape, doorLeaves Tryz.prog 123 8 109 laid8 os tape = some (laid8.filter fun x => x.2.handleName?.isNone, (funcsListed laid8).map (·.2.funcsOut)) := fun _ _ => by kernel_rfl
end Go.Proofs.YtakkdddfihpeiaaGreatDoor
end
