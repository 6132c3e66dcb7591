/-
  DERIVED. GIVEN WITH THE SEED: THE CARDS: each row of YtlemfkimffoiiaaDoorRows.lean that lists a variable, with what it lists TIED to the program's text (the seventh form; the later family's looks); each row that meets fmt, with fmt's text TOLD by the authors' own Lean function (tested against real Go, not proved from fmt's source: count such statements apart). THE CARD IS WHAT COUNTS. Prove the row's statement (the work); the ties are given (YtlemfkimffoiiaaDoorTie.lean); close each card by the builder's one call (the guide's Derived/Test/ToyasCard.lean, 'card_holds'). Laid BY PROGRAM, IN A SANDBOX (cutbox-door.mjs). By AI agents, Wed Nov 11 2026. No macro, syntax, notation, axiom, sorry.
-/
import Derived.Test.YtlemfkimffoiiaaDoorRows
import GoSem.ClaimSeven
namespace Go.Proofs.YtlemfkimffoiiaaDoor
namespace Rows

/-- THE TIED CARD OF 'lodgelaw19.DenRows'. -/
def denRowsCard : Claim7 := { stood := { row := denRowsRow, standIns := [], harness := (true, "0db7e9fea3b15e792114e36cf31130a2c9d678d792d8ebd6a2b3be137b07dd05"), looks := true }, kinds := [], alts := [], laidByText := true, laidKinds := [.handle, .sentinel, .sentinel, .sentinel, .sentinel, .sentinel, .sentinel], laidTests := true, laidLooks := .later }
def DenRowsCardSaid : Prop := Claim7.holds Tryd.pinned (.plain (OpenSpec.ofChange denRowsSpec)) denRowsCard

/-- THE SECOND FORM's CARD OF 'lodgelaw19.DenRows'. -/
def denRowsUptoCard : Claim7 := { stood := { row := denRowsUptoRow, standIns := [], harness := (true, "0db7e9fea3b15e792114e36cf31130a2c9d678d792d8ebd6a2b3be137b07dd05"), looks := true }, kinds := [], alts := [], laidByText := true, laidKinds := [.handle, .sentinel, .sentinel, .sentinel, .sentinel, .sentinel, .sentinel], laidTests := true, laidLooks := .later }
def DenRowsUptoCardSaid : Prop := Claim7.holds Tryd.pinned (.plain (OpenSpec.upto denRowsSpec)) denRowsUptoCard
end Rows
end Go.Proofs.YtlemfkimffoiiaaDoor
