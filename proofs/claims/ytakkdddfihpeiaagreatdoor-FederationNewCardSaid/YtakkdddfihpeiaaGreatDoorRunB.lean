/- The interpreter's program, told of awake; a test of its answers. -/
import Derived.Test.YtakkdddfihpeiaaGreatDoorLit
import Derived.KernelRfl
import Derived.Test.YtakkdddfihpeiaaGreatDoorInterpE
set_option linter.all false

section
namespace Go.AL
open Go Go.Proofs
def isB (b : Bool) : Option (Value × AW) → Bool
  | some (.bool c, _) => c == b
  | _ => false
theorem isB_some {b : Bool} {r : Option (Value × AW)} (h : isB b r = true) : ∃ A, r = some (.bool b, A) := by
  unfold isB at h
  split at h
  · rename_i c A
    exact ⟨A, by rw [beq_iff_eq.1 h]⟩
  · cases h
theorem gl_ok : gList GL = true := by kernel_rfl
/-- The interpreter's program, told of awake. -/
noncomputable def PP1 : AP := { PP with orc := (Tr.leaf : Tr Value).set dep 9 (.bool true), glob := GL }
end Go.AL
end
