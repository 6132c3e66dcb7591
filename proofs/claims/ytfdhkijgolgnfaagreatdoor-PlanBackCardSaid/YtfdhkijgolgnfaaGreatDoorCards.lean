/-
  DERIVED. GIVEN WITH THE SEED: THE CARDS: each row of YtfdhkijgolgnfaaGreatDoorRows.lean that lists a variable, with what it lists TIED to the program's text (the seventh form; the later family's looks); each row that meets fmt, with fmt's text TOLD by the authors' own Lean function (tested against real Go, not proved from fmt's source: count such statements apart). THE CARD IS WHAT COUNTS. Prove the row's statement (the work); the ties are given (YtfdhkijgolgnfaaGreatDoorTie.lean); close each card by the builder's one call (the guide's Derived/Test/ToyasCard.lean, 'card_holds'). Laid BY PROGRAM, IN A SANDBOX (cutbox-door.mjs). By AI agents, Wed Nov 11 2026. No macro, syntax, notation, axiom, sorry.
-/
import Derived.Test.YtfdhkijgolgnfaaGreatDoorRows
import GoSem.ClaimSeven
namespace Go.Proofs.YtfdhkijgolgnfaaGreatDoor
namespace Rows

/-- THE TIED CARD OF 'lodgelaw14.PlanBack'. -/
def planBackCard : Claim7 := { stood := { row := planBackRow, standIns := [], harness := (true, "8961e3c8c275d2d43340609ca75e680683c0d5bbfe797d33d2632612863394eb"), looks := true }, kinds := [], alts := [], laidByText := true, laidKinds := [.sentinel, .sentinel, .sentinel, .sentinel, .sentinel, .sentinel, .sentinel, .sentinel, .sentinel, .sentinel, .sentinel, .sentinel, .sentinel, .sentinel, .sentinel, .sentinel, .sentinel, .sentinel, .sentinel, .sentinel, .sentinel], laidTests := true, laidLooks := .later }
def PlanBackCardSaid : Prop := Claim7.holds Tryz.pinned (.plain (OpenSpec.ofChange planBackSpec)) planBackCard

/-- THE SECOND FORM's CARD OF 'lodgelaw14.PlanBack'. -/
def planBackUptoCard : Claim7 := { stood := { row := planBackUptoRow, standIns := [], harness := (true, "8961e3c8c275d2d43340609ca75e680683c0d5bbfe797d33d2632612863394eb"), looks := true }, kinds := [], alts := [], laidByText := true, laidKinds := [.sentinel, .sentinel, .sentinel, .sentinel, .sentinel, .sentinel, .sentinel, .sentinel, .sentinel, .sentinel, .sentinel, .sentinel, .sentinel, .sentinel, .sentinel, .sentinel, .sentinel, .sentinel, .sentinel, .sentinel, .sentinel], laidTests := true, laidLooks := .later }
def PlanBackUptoCardSaid : Prop := Claim7.holds Tryz.pinned (.plain (OpenSpec.upto planBackSpec)) planBackUptoCard
end Rows
end Go.Proofs.YtfdhkijgolgnfaaGreatDoor
