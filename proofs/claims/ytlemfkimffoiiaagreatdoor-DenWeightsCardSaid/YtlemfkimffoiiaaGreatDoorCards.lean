/-
  DERIVED. GIVEN WITH THE SEED: THE CARDS: each row of YtlemfkimffoiiaaGreatDoorRows.lean that lists a variable, with what it lists TIED to the program's text (the seventh form; the later family's looks); each row that meets fmt, with fmt's text TOLD by the authors' own Lean function (tested against real Go, not proved from fmt's source: count such statements apart). THE CARD IS WHAT COUNTS. Prove the row's statement (the work); the ties are given (YtlemfkimffoiiaaGreatDoorTie.lean); close each card by the builder's one call (the guide's Derived/Test/ToyasCard.lean, 'card_holds'). Laid BY PROGRAM, IN A SANDBOX (cutbox-door.mjs). By AI agents, Wed Nov 11 2026. No macro, syntax, notation, axiom, sorry.
-/
import Derived.Test.YtlemfkimffoiiaaGreatDoorRows
import GoSem.ClaimSeven
namespace Go.Proofs.YtlemfkimffoiiaaGreatDoor
namespace Rows

/-- THE TIED CARD OF 'lodgelaw19.DenWeights'. -/
def denWeightsCard : Claim7 := { stood := { row := denWeightsRow, standIns := [], harness := (true, "4bd136d027bea8ccedbb106dc5ae0162fccca934ef665677313a576a20bba559"), looks := true }, kinds := [], alts := [], laidByText := true, laidKinds := [.handle, .sentinel, .sentinel, .sentinel, .sentinel, .sentinel, .sentinel, .sentinel, .sentinel, .sentinel, .sentinel, .sentinel, .sentinel, .sentinel, .sentinel, .sentinel, .sentinel, .sentinel, .sentinel, .sentinel, .sentinel, .sentinel], laidTests := true, laidLooks := .later }
def DenWeightsCardSaid : Prop := Claim7.holds Tryz.pinned (.plain (OpenSpec.ofChange denWeightsSpec)) denWeightsCard

/-- THE SECOND FORM's CARD OF 'lodgelaw19.DenWeights'. -/
def denWeightsUptoCard : Claim7 := { stood := { row := denWeightsUptoRow, standIns := [], harness := (true, "4bd136d027bea8ccedbb106dc5ae0162fccca934ef665677313a576a20bba559"), looks := true }, kinds := [], alts := [], laidByText := true, laidKinds := [.handle, .sentinel, .sentinel, .sentinel, .sentinel, .sentinel, .sentinel, .sentinel, .sentinel, .sentinel, .sentinel, .sentinel, .sentinel, .sentinel, .sentinel, .sentinel, .sentinel, .sentinel, .sentinel, .sentinel, .sentinel, .sentinel], laidTests := true, laidLooks := .later }
def DenWeightsUptoCardSaid : Prop := Claim7.holds Tryz.pinned (.plain (OpenSpec.upto denWeightsSpec)) denWeightsUptoCard
end Rows
end Go.Proofs.YtlemfkimffoiiaaGreatDoor
