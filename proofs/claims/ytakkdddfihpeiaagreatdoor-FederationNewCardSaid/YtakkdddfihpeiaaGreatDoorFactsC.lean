/- Closed facts of those calls. -/
import Derived.Test.YtakkdddfihpeiaaGreatDoorFactsB
set_option linter.all false

section
namespace Go.Proofs.YtakkdddfihpeiaaGreatDoor
open Go
set_option maxRecDepth 100000
theorem k11 : (Rows.federationNewRow.unfollowed == Tryz.prog.unfollowed 3) = true := by
  unfold Program.unfollowed
  rw [clo_eq]
  kernel_rfl
theorem unf : Tryz.prog.unfollowed 3 = true := by
  unfold Program.unfollowed
  rw [clo_eq]
  kernel_rfl
theorem k12 : (Rows.federationNewRow.recurses == Tryz.prog.recurses 3) = true := by
  unfold Program.recurses
  rw [unf, Bool.true_or]
  rfl
theorem k13 : (Rows.federationNewRow.named == Tryz.prog.varsNamed 3) = true := by
  unfold Program.varsNamed
  rw [clo_eq]
  kernel_rfl
end Go.Proofs.YtakkdddfihpeiaaGreatDoor
end

section
namespace Go.Proofs.YtakkdddfihpeiaaGreatDoor
open Go
set_option maxRecDepth 100000
theorem k10 : (Rows.federationNewRow.inPlace == Tryz.prog.inPlace 3) = true := by
  unfold Program.inPlace
  rw [clo_eq]
  kernel_rfl
end Go.Proofs.YtakkdddfihpeiaaGreatDoor
end
