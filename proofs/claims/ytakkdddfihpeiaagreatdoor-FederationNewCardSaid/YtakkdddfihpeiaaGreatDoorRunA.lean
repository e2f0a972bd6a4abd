/- The interpreter's program fits the seat's program. -/
import Derived.Test.YtakkdddfihpeiaaGreatDoorInterpE
import Derived.Test.YtakkdddfihpeiaaGreatDoorLit
import Derived.KernelRfl
import Derived.Test.YtakkdddfihpeiaaGreatDoorProg
set_option linter.all false

section
namespace Go.AL
open Go Go.Proofs
set_option maxRecDepth 100000
theorem fa_types : (gather PP.types 1 0).map (fun q => (Tryz.prog.info? q.1, Tryz.prog.underlying q.1)) = (gather PP.types 1 0).map (fun q => (some q.2.1, some q.2.2)) := by kernel_rfl
theorem fa_funcs : (gather PP.funcs 1 0).map (fun q => (Tryz.prog.funcs[q.1]?, q.2.name == "runtime.NumGoroutine")) = (gather PP.funcs 1 0).map (fun q => (some q.2, false)) := by kernel_rfl
theorem fa_eqs : PP.eqok.map (fun t => (Tryz.prog.stoodInHeld t, Tryz.prog.eqGuardType Tryz.prog.depth t, noBlank (Tryz.prog.underlying t))) = PP.eqok.map (fun _ => (false, false, true)) := by kernel_rfl
theorem mixed : Tryz.prog.follows .mixedOrders = true := by kernel_rfl
theorem fa0 : Fa PP Tryz.prog := Fa.of_lists rfl fa_funcs fa_types fa_eqs
end Go.AL
end
