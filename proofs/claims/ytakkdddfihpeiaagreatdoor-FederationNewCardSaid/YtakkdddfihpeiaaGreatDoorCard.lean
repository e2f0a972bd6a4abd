/- THE CLAIM: the law FederationNew returns true for every input and changes no argument, with the package variables as the program's text lays them. -/
import Derived.Test.YtakkdddfihpeiaaGreatDoorFactsB
import Derived.Test.YtakkdddfihpeiaaGreatDoorFactsC
import Derived.Test.YtakkdddfihpeiaaGreatDoorRow
import Derived.Test.YtakkdddfihpeiaaGreatDoorTieF
import Derived.Test.YtakkdddfihpeiaaGreatDoorCards
set_option linter.all false

section
namespace Go.Proofs.YtakkdddfihpeiaaGreatDoor
open Go
set_option maxRecDepth 100000
theorem gB : Tryz.prog.funcs.toList.any Func.goes = false := by kernel_rfl
theorem gB' : Tryz.prog.funcs.any Func.goes = false := by rw [← Array.any_toList]; exact gB
theorem gA (l : List FuncId) : (l.any fun g => (Tryz.prog.funcs[g]?).any Func.goes) = false := by
  rw [List.any_eq_false]
  intro g _
  cases h : Tryz.prog.funcs[g]? with
  | none => simp
  | some fn =>
    have hm : fn ∈ Tryz.prog.funcs.toList := Array.mem_toList_iff.2 (Array.mem_of_getElem? h)
    have := List.any_eq_false.1 gB fn hm
    simpa using this
theorem named3T : Tryz.prog.funcNamed "customs/customslaw39.FederationNew" = some 3 := by kernel_rfl
theorem goes3 : Tryz.prog.goes 3 = false := by
  unfold Program.goes
  rw [gA, gB', Bool.and_false]
  rfl
theorem goesFromT : Tryz.prog.goesFrom "customs/customslaw39.FederationNew" = false := by
  unfold Program.goesFrom
  rw [named3T, Option.any_some]
  exact goes3
theorem goesByT : Rows.federationNewRow.goesBy Tryz.prog = (Tryz.prog.goesFrom "customs/customslaw39.FederationNew" || false) := rfl
theorem goesT : false = Rows.federationNewRow.goesBy Tryz.pinned.checked.prog := by
  have h := goesByT
  rw [goesFromT] at h
  exact h.symm
end Go.Proofs.YtakkdddfihpeiaaGreatDoor
end

section
namespace Go.Proofs.YtakkdddfihpeiaaGreatDoor
open Go
set_option maxRecDepth 100000
theorem row_tie : Rows.federationNewRow.laidByTextAt .later Tryz.pinned [.data, .data, .data, .data, .data, .pinned, .data, .sentinel, .sentinel] true :=
  OpenClaim.laidByTextAt_pinned rfl rfl tie8 rfl rfl rfl rfl (fun y hy _e => by
    simp only [Rows.federationNewRow, List.zip_cons_cons, List.zip_nil_right, List.mem_cons, List.mem_nil_iff, or_false] at hy
    rcases hy with rfl | rfl | rfl | rfl | rfl | rfl | rfl | rfl | rfl
    · cases _e
    · cases _e
    · cases _e
    · cases _e
    · cases _e
    · exact ⟨pin_first, pin_datum⟩
    · cases _e
    · cases _e
    · cases _e) fitsT
theorem wft : Rows.federationNewRow.wfByText (OpenSpec.ofChange Rows.federationNewSpec) = true := by kernel_rfl
theorem mainT : Tryz.pinned.checked.prog.mainIs = some (true, "1f0a2a899c508bb3fe7350018c1c35ca1801d17ad8f7af6897b0e18ca63508ca".toList) := by kernel_rfl
theorem looksT : true = Tryz.pinned.checked.prog.looks [] := by kernel_rfl
theorem standT : ([3, 4, 22].all fun u => !Tryz.prog.wantsStandIn u) = true := by kernel_rfl
theorem card_holds : Rows.FederationNewCardSaid :=
  Claim7.holds_tied_plain_at .later [] [.data, .data, .data, .data, .data, .pinned, .data, .sentinel, .sentinel] true (true, "1f0a2a899c508bb3fe7350018c1c35ca1801d17ad8f7af6897b0e18ca63508ca") true holds (fun _ h => by cases h) wft (fun _ h => by cases h) row_tie rfl ⟨rfl, rfl⟩ mainT rfl
    (fun f fn hf hfn => by
      obtain rfl : f = 3 := Option.some.inj ((show Tryz.prog.funcNamed "customs/customslaw39.FederationNew" = some 3 from named3).symm.trans hf) |>.symm
      obtain rfl : fn = Tryz.f3 := (Option.some.inj (Tryz.func3.symm.trans hfn)).symm
      exact ⟨looksT, fun j t ht => by
        rw [Tryz.params3] at ht
        have hm : t ∈ [3, 4, 22] := by simpa using Array.mem_of_getElem? ht
        exact (show Tryz.prog.wantsStandIn t = false by simpa using List.all_eq_true.1 standT t hm)⟩)
    goesT
end Go.Proofs.YtakkdddfihpeiaaGreatDoor
end
