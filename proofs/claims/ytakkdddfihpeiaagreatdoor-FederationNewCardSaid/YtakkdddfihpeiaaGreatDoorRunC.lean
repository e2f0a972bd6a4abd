/- awake comes to true. -/
import Derived.Test.YtakkdddfihpeiaaGreatDoorRunB
import Derived.Test.YtakkdddfihpeiaaGreatDoorRunA
set_option linter.all false

section
namespace Go.AL
open Go Go.Proofs
set_option maxRecDepth 100000
/-- awake comes to true. -/
theorem k_awake : isB true (acall PP 1000000 false 9 [] (AG GL)) = true := by kernel_rfl
end Go.AL
end

section
namespace Go.AL
open Go Go.Proofs
theorem fa1 : Fa PP1 Tryz.prog := by
  obtain ⟨A', hA⟩ := isB_some k_awake
  exact fa0.tell mixed rfl gl_ok hA rfl (by decide)
end Go.AL
end
