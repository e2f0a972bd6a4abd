/- The types are laid out. -/
import Derived.Test.YtakkdddfihpeiaaGreatDoorFacts
set_option linter.all false

section
namespace Go.Proofs.YtakkdddfihpeiaaGreatDoor
open Go
set_option maxRecDepth 100000
theorem rows0 : (List.range' 0 75).all (rowFine Tryz.prog) = true := by kernel_rfl
theorem rows1 : (List.range' 75 75).all (rowFine Tryz.prog) = true := by kernel_rfl
theorem rows2 : (List.range' 150 75).all (rowFine Tryz.prog) = true := by kernel_rfl
theorem rows3 : (List.range' 225 75).all (rowFine Tryz.prog) = true := by kernel_rfl
theorem rows4 : (List.range' 300 75).all (rowFine Tryz.prog) = true := by kernel_rfl
theorem rows5 : (List.range' 375 75).all (rowFine Tryz.prog) = true := by kernel_rfl
theorem rows6 : (List.range' 450 75).all (rowFine Tryz.prog) = true := by kernel_rfl
theorem rows7 : (List.range' 525 75).all (rowFine Tryz.prog) = true := by kernel_rfl
theorem rows8 : (List.range' 600 75).all (rowFine Tryz.prog) = true := by kernel_rfl
theorem rows9 : (List.range' 675 75).all (rowFine Tryz.prog) = true := by kernel_rfl
theorem rows10 : (List.range' 750 75).all (rowFine Tryz.prog) = true := by kernel_rfl
theorem rows11 : (List.range' 825 50).all (rowFine Tryz.prog) = true := by kernel_rfl
theorem rowsAll : (List.range Tryz.prog.types.size).all (rowFine Tryz.prog) = true := by
  rw [size875, List.all_eq_true]
  intro t ht
  have h9 := List.mem_range.1 ht
  have h (a n : Nat) (hc : (List.range' a n).all (rowFine Tryz.prog) = true) (h1 : a ≤ t) (h2 : t < a + n) : rowFine Tryz.prog t = true := List.all_eq_true.1 hc t (List.mem_range'_1.2 ⟨h1, h2⟩)
  by_cases h100 : t < 75
  · exact h 0 75 rows0 (by omega) (by omega)
  by_cases h101 : t < 150
  · exact h 75 75 rows1 (by omega) (by omega)
  by_cases h102 : t < 225
  · exact h 150 75 rows2 (by omega) (by omega)
  by_cases h103 : t < 300
  · exact h 225 75 rows3 (by omega) (by omega)
  by_cases h104 : t < 375
  · exact h 300 75 rows4 (by omega) (by omega)
  by_cases h105 : t < 450
  · exact h 375 75 rows5 (by omega) (by omega)
  by_cases h106 : t < 525
  · exact h 450 75 rows6 (by omega) (by omega)
  by_cases h107 : t < 600
  · exact h 525 75 rows7 (by omega) (by omega)
  by_cases h108 : t < 675
  · exact h 600 75 rows8 (by omega) (by omega)
  by_cases h109 : t < 750
  · exact h 675 75 rows9 (by omega) (by omega)
  by_cases h110 : t < 825
  · exact h 750 75 rows10 (by omega) (by omega)
  by_cases h111 : t < 875
  · exact h 825 50 rows11 (by omega) (by omega)
  omega
theorem laidG : Tryz.prog.globals.all (fun g => decide (g.type < Tryz.prog.types.size)) = true := by rw [size875]; kernel_rfl
theorem laidF : Tryz.prog.funcs.all (fun f => f.params.all fun t => decide (t < Tryz.prog.types.size)) = true := by rw [size875]; kernel_rfl
theorem laidOut : laidOutB Tryz.prog = true := by unfold laidOutB; rw [rowsAll, laidG, laidF]; rfl
end Go.Proofs.YtakkdddfihpeiaaGreatDoor
end
