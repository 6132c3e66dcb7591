/-
  DERIVED. GIVEN WITH THE SEED: THE CARDS: each row of YtploijbaclgehaaDoorRows.lean that lists a variable, with what it lists TIED to the program's text (the seventh form; the later family's looks); each row that meets fmt, with fmt's text TOLD by the authors' own Lean function (tested against real Go, not proved from fmt's source: count such statements apart). THE CARD IS WHAT COUNTS. Prove the row's statement (the work); the ties are given (YtploijbaclgehaaDoorTie.lean); close each card by the builder's one call (the guide's Derived/Test/ToyasCard.lean, 'card_holds'). Laid BY PROGRAM, IN A SANDBOX (cutbox-door.mjs). By AI agents, Wed Nov 11 2026. No macro, syntax, notation, axiom, sorry.
-/
import Derived.Test.YtploijbaclgehaaDoorRows
import GoSem.ClaimSeven
namespace Go.Proofs.YtploijbaclgehaaDoor
namespace Rows

/-- THE TIED CARD OF 'lodgelaw14.PlanCopies'. -/
def planCopiesCard : Claim7 := { stood := { row := planCopiesRow, standIns := [], harness := (true, "840a378206cb977368c7765a303fe499439375cf92ab7180109b9469615d36f8"), looks := true }, kinds := [], alts := [], laidByText := true, laidKinds := [.sentinel, .sentinel, .sentinel], laidTests := true, laidLooks := .later }
def PlanCopiesCardSaid : Prop := Claim7.holds Tryd.pinned (.plain (OpenSpec.ofChange planCopiesSpec)) planCopiesCard

/-- THE TIED CARD OF 'lodgelaw18.OrderWeights'. -/
def orderWeightsCard : Claim7 := { stood := { row := orderWeightsRow, standIns := [], harness := (true, "840a378206cb977368c7765a303fe499439375cf92ab7180109b9469615d36f8"), looks := true }, kinds := [], alts := [], laidByText := true, laidKinds := [.handle, .sentinel, .sentinel, .sentinel, .sentinel, .sentinel, .sentinel, .sentinel, .sentinel, .sentinel, .sentinel, .sentinel, .sentinel, .sentinel, .sentinel, .sentinel, .sentinel, .sentinel, .sentinel, .sentinel, .sentinel, .sentinel], laidTests := true, laidLooks := .later }
def OrderWeightsCardSaid : Prop := Claim7.holds Tryd.pinned (.plain (OpenSpec.ofChange orderWeightsSpec)) orderWeightsCard

/-- THE TIED CARD OF 'lodgelaw23.GenTiles'. -/
def genTilesCard : Claim7 := { stood := { row := genTilesRow, standIns := [], harness := (true, "840a378206cb977368c7765a303fe499439375cf92ab7180109b9469615d36f8"), looks := true }, kinds := [], alts := [], laidByText := true, laidKinds := [.handle, .sentinel, .sentinel, .sentinel, .sentinel, .sentinel, .sentinel, .sentinel, .sentinel], laidTests := true, laidLooks := .later }
def GenTilesCardSaid : Prop := Claim7.holds Tryd.pinned (.plain (OpenSpec.ofChange genTilesSpec)) genTilesCard

/-- THE TIED CARD OF 'lodgelaw23.GenCounts'. -/
def genCountsCard : Claim7 := { stood := { row := genCountsRow, standIns := [], harness := (true, "840a378206cb977368c7765a303fe499439375cf92ab7180109b9469615d36f8"), looks := true }, kinds := [], alts := [], laidByText := true, laidKinds := [.handle, .sentinel, .sentinel, .sentinel, .sentinel, .sentinel, .sentinel, .sentinel, .sentinel], laidTests := true, laidLooks := .later }
def GenCountsCardSaid : Prop := Claim7.holds Tryd.pinned (.plain (OpenSpec.ofChange genCountsSpec)) genCountsCard

/-- THE TIED CARD OF 'lodgelaw23.GenWeights'. -/
def genWeightsCard : Claim7 := { stood := { row := genWeightsRow, standIns := [], harness := (true, "840a378206cb977368c7765a303fe499439375cf92ab7180109b9469615d36f8"), looks := true }, kinds := [], alts := [], laidByText := true, laidKinds := [.handle, .sentinel, .sentinel, .sentinel, .sentinel, .sentinel, .sentinel, .sentinel, .sentinel], laidTests := true, laidLooks := .later }
def GenWeightsCardSaid : Prop := Claim7.holds Tryd.pinned (.plain (OpenSpec.ofChange genWeightsSpec)) genWeightsCard

/-- THE SECOND FORM's CARD OF 'lodgelaw14.PlanCopies'. -/
def planCopiesUptoCard : Claim7 := { stood := { row := planCopiesUptoRow, standIns := [], harness := (true, "840a378206cb977368c7765a303fe499439375cf92ab7180109b9469615d36f8"), looks := true }, kinds := [], alts := [], laidByText := true, laidKinds := [.sentinel, .sentinel, .sentinel], laidTests := true, laidLooks := .later }
def PlanCopiesUptoCardSaid : Prop := Claim7.holds Tryd.pinned (.plain (OpenSpec.upto planCopiesSpec)) planCopiesUptoCard

/-- THE SECOND FORM's CARD OF 'lodgelaw18.OrderWeights'. -/
def orderWeightsUptoCard : Claim7 := { stood := { row := orderWeightsUptoRow, standIns := [], harness := (true, "840a378206cb977368c7765a303fe499439375cf92ab7180109b9469615d36f8"), looks := true }, kinds := [], alts := [], laidByText := true, laidKinds := [.handle, .sentinel, .sentinel, .sentinel, .sentinel, .sentinel, .sentinel, .sentinel, .sentinel, .sentinel, .sentinel, .sentinel, .sentinel, .sentinel, .sentinel, .sentinel, .sentinel, .sentinel, .sentinel, .sentinel, .sentinel, .sentinel], laidTests := true, laidLooks := .later }
def OrderWeightsUptoCardSaid : Prop := Claim7.holds Tryd.pinned (.plain (OpenSpec.upto orderWeightsSpec)) orderWeightsUptoCard

/-- THE SECOND FORM's CARD OF 'lodgelaw23.GenTiles'. -/
def genTilesUptoCard : Claim7 := { stood := { row := genTilesUptoRow, standIns := [], harness := (true, "840a378206cb977368c7765a303fe499439375cf92ab7180109b9469615d36f8"), looks := true }, kinds := [], alts := [], laidByText := true, laidKinds := [.handle, .sentinel, .sentinel, .sentinel, .sentinel, .sentinel, .sentinel, .sentinel, .sentinel], laidTests := true, laidLooks := .later }
def GenTilesUptoCardSaid : Prop := Claim7.holds Tryd.pinned (.plain (OpenSpec.upto genTilesSpec)) genTilesUptoCard

/-- THE SECOND FORM's CARD OF 'lodgelaw23.GenCounts'. -/
def genCountsUptoCard : Claim7 := { stood := { row := genCountsUptoRow, standIns := [], harness := (true, "840a378206cb977368c7765a303fe499439375cf92ab7180109b9469615d36f8"), looks := true }, kinds := [], alts := [], laidByText := true, laidKinds := [.handle, .sentinel, .sentinel, .sentinel, .sentinel, .sentinel, .sentinel, .sentinel, .sentinel], laidTests := true, laidLooks := .later }
def GenCountsUptoCardSaid : Prop := Claim7.holds Tryd.pinned (.plain (OpenSpec.upto genCountsSpec)) genCountsUptoCard

/-- THE SECOND FORM's CARD OF 'lodgelaw23.GenWeights'. -/
def genWeightsUptoCard : Claim7 := { stood := { row := genWeightsUptoRow, standIns := [], harness := (true, "840a378206cb977368c7765a303fe499439375cf92ab7180109b9469615d36f8"), looks := true }, kinds := [], alts := [], laidByText := true, laidKinds := [.handle, .sentinel, .sentinel, .sentinel, .sentinel, .sentinel, .sentinel, .sentinel, .sentinel], laidTests := true, laidLooks := .later }
def GenWeightsUptoCardSaid : Prop := Claim7.holds Tryd.pinned (.plain (OpenSpec.upto genWeightsSpec)) genWeightsUptoCard
end Rows
end Go.Proofs.YtploijbaclgehaaDoor
