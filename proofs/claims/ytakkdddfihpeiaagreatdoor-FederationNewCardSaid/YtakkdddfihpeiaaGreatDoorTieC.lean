/- The tie's facts: what is named. -/
import Derived.Test.YtakkdddfihpeiaaGreatDoorTieA
import Derived.LaidByTextLater
import Derived.LaidOnce
import Derived.SevenTiedAt
set_option linter.all false

section
namespace Go.Proofs.YtakkdddfihpeiaaGreatDoor
open Go
set_option maxRecDepth 100000
noncomputable def vcode : Code := match (Tryz.prog.funcs[varsId Tryz.prog]?).bind (·.body) with | some c => c | none => .skip
theorem vcode_eq : (Tryz.prog.funcs[varsId Tryz.prog]?).bind (·.body) = some vcode := by kernel_rfl
noncomputable def vst : List Nat := match vcode.laysInOrder [] with | some s => s | none => []
theorem vst_eq : vcode.laysInOrder [] = some vst := by kernel_rfl
theorem vA : (vst.eraseDups.length == vst.length) = true := by kernel_rfl
noncomputable def vOk (x : String × DataW Unit) : Bool := (Tryz.prog.globalNamed x.1).any fun v => (vst.contains v == (Tryz.prog.kindBase x.1 != some .zero)) && callsFit vcode v (Tryz.prog.kindBase x.1) &&
          ((vcode.storedByHandle Tryz.prog).contains v == (Tryz.prog.kindBase x.1 == some .handle)) && (x.2.handleName?.isSome == (Tryz.prog.kindBase x.1 == some .handle || Tryz.prog.kindBase x.1 == some .funcs)) &&
          (Tryz.prog.kindBase x.1 != some .handle || handlePair x) && (x.2.funcsIn?.isSome == (Tryz.prog.kindBase x.1 == some .funcs)) && mapsFit vcode v x.2 (Tryz.prog.kindBase x.1)
end Go.Proofs.YtakkdddfihpeiaaGreatDoor
end

section
namespace Go.Proofs.YtakkdddfihpeiaaGreatDoor
open Go
set_option maxRecDepth 100000
theorem vC : laid8.all vOk = true := by kernel_rfl
end Go.Proofs.YtakkdddfihpeiaaGreatDoor
end
