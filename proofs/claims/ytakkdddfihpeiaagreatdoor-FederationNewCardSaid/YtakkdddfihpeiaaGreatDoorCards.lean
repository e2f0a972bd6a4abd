/-
  DERIVED. GIVEN WITH THE SEED: THE CARDS: each row of YtakkdddfihpeiaaGreatDoorRows.lean that lists a variable, with what it lists TIED to the program's text (the seventh form; the later family's looks); each row that meets fmt, with fmt's text TOLD by the authors' own Lean function (tested against real Go, not proved from fmt's source: count such statements apart). THE CARD IS WHAT COUNTS. Prove the row's statement (the work); the ties are given (YtakkdddfihpeiaaGreatDoorTie.lean); close each card by the builder's one call (the guide's Derived/Test/ToyasCard.lean, 'card_holds'). Laid BY PROGRAM, IN A SANDBOX (cutbox-door.mjs). By AI agents, Wed Nov 11 2026. No macro, syntax, notation, axiom, sorry.
-/
import Derived.Test.YtakkdddfihpeiaaGreatDoorRows
import GoSem.ClaimSeven
namespace Go.Proofs.YtakkdddfihpeiaaGreatDoor
namespace Rows

/-- THE TIED CARD OF 'customslaw39.FederationNew'. -/
def federationNewCard : Claim7 := { stood := { row := federationNewRow, standIns := [], harness := (true, "1f0a2a899c508bb3fe7350018c1c35ca1801d17ad8f7af6897b0e18ca63508ca"), looks := true }, kinds := [], alts := [], laidByText := true, laidKinds := [.data, .data, .data, .data, .data, .pinned, .data, .sentinel, .sentinel], laidTests := true, laidLooks := .later }
def FederationNewCardSaid : Prop := Claim7.holds Tryz.pinned (.plain (OpenSpec.ofChange federationNewSpec)) federationNewCard

/-- THE SECOND FORM's CARD OF 'customslaw39.FederationNew'. -/
def federationNewUptoCard : Claim7 := { stood := { row := federationNewUptoRow, standIns := [], harness := (true, "1f0a2a899c508bb3fe7350018c1c35ca1801d17ad8f7af6897b0e18ca63508ca"), looks := true }, kinds := [], alts := [], laidByText := true, laidKinds := [.data, .data, .data, .data, .data, .pinned, .data, .sentinel, .sentinel], laidTests := true, laidLooks := .later }
def FederationNewUptoCardSaid : Prop := Claim7.holds Tryz.pinned (.plain (OpenSpec.upto federationNewSpec)) federationNewUptoCard
end Rows
end Go.Proofs.YtakkdddfihpeiaaGreatDoor
