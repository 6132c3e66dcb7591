/-
  DERIVED. GIVEN WITH THE SEED: THE CARDS: each row of YtfncabcldhemkaaDoorRows.lean that lists a variable, with what it lists TIED to the program's text (the seventh form; the later family's looks); each row that meets fmt, with fmt's text TOLD by the authors' own Lean function (tested against real Go, not proved from fmt's source: count such statements apart). THE CARD IS WHAT COUNTS. Prove the row's statement (the work); the ties are given (YtfncabcldhemkaaDoorTie.lean); close each card by the builder's one call (the guide's Derived/Test/ToyasCard.lean, 'card_holds'). Laid BY PROGRAM, IN A SANDBOX (cutbox-door.mjs). By AI agents, Wed Nov 11 2026. No macro, syntax, notation, axiom, sorry.
-/
import Derived.Test.YtfncabcldhemkaaDoorRows
import GoSem.ClaimSeven
namespace Go.Proofs.YtfncabcldhemkaaDoor
namespace Rows

/-- THE TIED CARD OF 'lodgelaw15.CheckApart'. -/
def checkApartCard : Claim7 := { stood := { row := checkApartRow, standIns := [], harness := (true, "d33aeda1eb0ca5fb131a203b9d27d98fa0c1848715344d7bc965e387de122db1"), looks := true }, kinds := [], alts := [], laidByText := true, laidKinds := [.handle, .sentinel, .sentinel, .sentinel, .sentinel, .sentinel, .sentinel, .sentinel, .sentinel, .sentinel, .sentinel, .sentinel, .sentinel, .sentinel, .sentinel, .sentinel, .sentinel, .sentinel, .sentinel, .sentinel, .sentinel, .sentinel], laidTests := true, laidLooks := .later }
def CheckApartCardSaid : Prop := Claim7.holds Tryd.pinned (.plain (OpenSpec.ofChange checkApartSpec)) checkApartCard

/-- THE TIED CARD OF 'lodgelaw15.CheckTurned'. -/
def checkTurnedCard : Claim7 := { stood := { row := checkTurnedRow, standIns := [], harness := (true, "d33aeda1eb0ca5fb131a203b9d27d98fa0c1848715344d7bc965e387de122db1"), looks := true }, kinds := [], alts := [], laidByText := true, laidKinds := [.handle, .sentinel, .sentinel, .sentinel, .sentinel, .sentinel, .sentinel, .sentinel, .sentinel, .sentinel, .sentinel, .sentinel, .sentinel, .sentinel, .sentinel, .sentinel, .sentinel, .sentinel, .sentinel, .sentinel, .sentinel, .sentinel], laidTests := true, laidLooks := .later }
def CheckTurnedCardSaid : Prop := Claim7.holds Tryd.pinned (.plain (OpenSpec.ofChange checkTurnedSpec)) checkTurnedCard

/-- THE TIED CARD OF 'lodgelaw15.CheckBounds'. -/
def checkBoundsCard : Claim7 := { stood := { row := checkBoundsRow, standIns := [], harness := (true, "d33aeda1eb0ca5fb131a203b9d27d98fa0c1848715344d7bc965e387de122db1"), looks := true }, kinds := [], alts := [], laidByText := true, laidKinds := [.handle, .sentinel, .sentinel, .sentinel, .sentinel, .sentinel, .sentinel, .sentinel, .sentinel, .sentinel, .sentinel, .sentinel, .sentinel, .sentinel, .sentinel, .sentinel, .sentinel, .sentinel, .sentinel, .sentinel, .sentinel, .sentinel], laidTests := true, laidLooks := .later }
def CheckBoundsCardSaid : Prop := Claim7.holds Tryd.pinned (.plain (OpenSpec.ofChange checkBoundsSpec)) checkBoundsCard

/-- THE TIED CARD OF 'lodgelaw15.CheckCosts'. -/
def checkCostsCard : Claim7 := { stood := { row := checkCostsRow, standIns := [], harness := (true, "d33aeda1eb0ca5fb131a203b9d27d98fa0c1848715344d7bc965e387de122db1"), looks := true }, kinds := [], alts := [], laidByText := true, laidKinds := [.handle, .sentinel, .sentinel, .sentinel, .sentinel, .sentinel, .sentinel, .sentinel, .sentinel, .sentinel, .sentinel, .sentinel, .sentinel, .sentinel, .sentinel, .sentinel, .sentinel, .sentinel, .sentinel, .sentinel, .sentinel, .sentinel], laidTests := true, laidLooks := .later }
def CheckCostsCardSaid : Prop := Claim7.holds Tryd.pinned (.plain (OpenSpec.ofChange checkCostsSpec)) checkCostsCard

/-- THE TIED CARD OF 'lodgelaw22.LiveApart'. -/
def liveApartCard : Claim7 := { stood := { row := liveApartRow, standIns := [], harness := (true, "d33aeda1eb0ca5fb131a203b9d27d98fa0c1848715344d7bc965e387de122db1"), looks := true }, kinds := [], alts := [], laidByText := true, laidKinds := [.handle, .sentinel, .sentinel, .sentinel, .sentinel, .sentinel, .sentinel, .sentinel], laidTests := true, laidLooks := .later }
def LiveApartCardSaid : Prop := Claim7.holds Tryd.pinned (.plain (OpenSpec.ofChange liveApartSpec)) liveApartCard

/-- THE TIED CARD OF 'lodgelaw22.LiveRows'. -/
def liveRowsCard : Claim7 := { stood := { row := liveRowsRow, standIns := [], harness := (true, "d33aeda1eb0ca5fb131a203b9d27d98fa0c1848715344d7bc965e387de122db1"), looks := true }, kinds := [], alts := [], laidByText := true, laidKinds := [.handle, .sentinel, .sentinel, .sentinel, .sentinel, .sentinel, .sentinel, .sentinel], laidTests := true, laidLooks := .later }
def LiveRowsCardSaid : Prop := Claim7.holds Tryd.pinned (.plain (OpenSpec.ofChange liveRowsSpec)) liveRowsCard

/-- THE TIED CARD OF 'lodgelaw22.LivePeaks'. -/
def livePeaksCard : Claim7 := { stood := { row := livePeaksRow, standIns := [], harness := (true, "d33aeda1eb0ca5fb131a203b9d27d98fa0c1848715344d7bc965e387de122db1"), looks := true }, kinds := [], alts := [], laidByText := true, laidKinds := [.handle, .sentinel, .sentinel, .sentinel, .sentinel, .sentinel, .sentinel, .sentinel], laidTests := true, laidLooks := .later }
def LivePeaksCardSaid : Prop := Claim7.holds Tryd.pinned (.plain (OpenSpec.ofChange livePeaksSpec)) livePeaksCard

/-- THE TIED CARD OF 'lodgelaw21.FuseRows'. -/
def fuseRowsCard : Claim7 := { stood := { row := fuseRowsRow, standIns := [], harness := (true, "d33aeda1eb0ca5fb131a203b9d27d98fa0c1848715344d7bc965e387de122db1"), looks := true }, kinds := [], alts := [], laidByText := true, laidKinds := [.handle, .sentinel, .sentinel, .sentinel, .sentinel, .sentinel, .sentinel], laidTests := true, laidLooks := .later }
def FuseRowsCardSaid : Prop := Claim7.holds Tryd.pinned (.plain (OpenSpec.ofChange fuseRowsSpec)) fuseRowsCard

/-- THE SECOND FORM's CARD OF 'lodgelaw15.CheckApart'. -/
def checkApartUptoCard : Claim7 := { stood := { row := checkApartUptoRow, standIns := [], harness := (true, "d33aeda1eb0ca5fb131a203b9d27d98fa0c1848715344d7bc965e387de122db1"), looks := true }, kinds := [], alts := [], laidByText := true, laidKinds := [.handle, .sentinel, .sentinel, .sentinel, .sentinel, .sentinel, .sentinel, .sentinel, .sentinel, .sentinel, .sentinel, .sentinel, .sentinel, .sentinel, .sentinel, .sentinel, .sentinel, .sentinel, .sentinel, .sentinel, .sentinel, .sentinel], laidTests := true, laidLooks := .later }
def CheckApartUptoCardSaid : Prop := Claim7.holds Tryd.pinned (.plain (OpenSpec.upto checkApartSpec)) checkApartUptoCard

/-- THE SECOND FORM's CARD OF 'lodgelaw15.CheckTurned'. -/
def checkTurnedUptoCard : Claim7 := { stood := { row := checkTurnedUptoRow, standIns := [], harness := (true, "d33aeda1eb0ca5fb131a203b9d27d98fa0c1848715344d7bc965e387de122db1"), looks := true }, kinds := [], alts := [], laidByText := true, laidKinds := [.handle, .sentinel, .sentinel, .sentinel, .sentinel, .sentinel, .sentinel, .sentinel, .sentinel, .sentinel, .sentinel, .sentinel, .sentinel, .sentinel, .sentinel, .sentinel, .sentinel, .sentinel, .sentinel, .sentinel, .sentinel, .sentinel], laidTests := true, laidLooks := .later }
def CheckTurnedUptoCardSaid : Prop := Claim7.holds Tryd.pinned (.plain (OpenSpec.upto checkTurnedSpec)) checkTurnedUptoCard

/-- THE SECOND FORM's CARD OF 'lodgelaw15.CheckBounds'. -/
def checkBoundsUptoCard : Claim7 := { stood := { row := checkBoundsUptoRow, standIns := [], harness := (true, "d33aeda1eb0ca5fb131a203b9d27d98fa0c1848715344d7bc965e387de122db1"), looks := true }, kinds := [], alts := [], laidByText := true, laidKinds := [.handle, .sentinel, .sentinel, .sentinel, .sentinel, .sentinel, .sentinel, .sentinel, .sentinel, .sentinel, .sentinel, .sentinel, .sentinel, .sentinel, .sentinel, .sentinel, .sentinel, .sentinel, .sentinel, .sentinel, .sentinel, .sentinel], laidTests := true, laidLooks := .later }
def CheckBoundsUptoCardSaid : Prop := Claim7.holds Tryd.pinned (.plain (OpenSpec.upto checkBoundsSpec)) checkBoundsUptoCard

/-- THE SECOND FORM's CARD OF 'lodgelaw15.CheckCosts'. -/
def checkCostsUptoCard : Claim7 := { stood := { row := checkCostsUptoRow, standIns := [], harness := (true, "d33aeda1eb0ca5fb131a203b9d27d98fa0c1848715344d7bc965e387de122db1"), looks := true }, kinds := [], alts := [], laidByText := true, laidKinds := [.handle, .sentinel, .sentinel, .sentinel, .sentinel, .sentinel, .sentinel, .sentinel, .sentinel, .sentinel, .sentinel, .sentinel, .sentinel, .sentinel, .sentinel, .sentinel, .sentinel, .sentinel, .sentinel, .sentinel, .sentinel, .sentinel], laidTests := true, laidLooks := .later }
def CheckCostsUptoCardSaid : Prop := Claim7.holds Tryd.pinned (.plain (OpenSpec.upto checkCostsSpec)) checkCostsUptoCard

/-- THE SECOND FORM's CARD OF 'lodgelaw22.LiveApart'. -/
def liveApartUptoCard : Claim7 := { stood := { row := liveApartUptoRow, standIns := [], harness := (true, "d33aeda1eb0ca5fb131a203b9d27d98fa0c1848715344d7bc965e387de122db1"), looks := true }, kinds := [], alts := [], laidByText := true, laidKinds := [.handle, .sentinel, .sentinel, .sentinel, .sentinel, .sentinel, .sentinel, .sentinel], laidTests := true, laidLooks := .later }
def LiveApartUptoCardSaid : Prop := Claim7.holds Tryd.pinned (.plain (OpenSpec.upto liveApartSpec)) liveApartUptoCard

/-- THE SECOND FORM's CARD OF 'lodgelaw22.LiveRows'. -/
def liveRowsUptoCard : Claim7 := { stood := { row := liveRowsUptoRow, standIns := [], harness := (true, "d33aeda1eb0ca5fb131a203b9d27d98fa0c1848715344d7bc965e387de122db1"), looks := true }, kinds := [], alts := [], laidByText := true, laidKinds := [.handle, .sentinel, .sentinel, .sentinel, .sentinel, .sentinel, .sentinel, .sentinel], laidTests := true, laidLooks := .later }
def LiveRowsUptoCardSaid : Prop := Claim7.holds Tryd.pinned (.plain (OpenSpec.upto liveRowsSpec)) liveRowsUptoCard

/-- THE SECOND FORM's CARD OF 'lodgelaw22.LivePeaks'. -/
def livePeaksUptoCard : Claim7 := { stood := { row := livePeaksUptoRow, standIns := [], harness := (true, "d33aeda1eb0ca5fb131a203b9d27d98fa0c1848715344d7bc965e387de122db1"), looks := true }, kinds := [], alts := [], laidByText := true, laidKinds := [.handle, .sentinel, .sentinel, .sentinel, .sentinel, .sentinel, .sentinel, .sentinel], laidTests := true, laidLooks := .later }
def LivePeaksUptoCardSaid : Prop := Claim7.holds Tryd.pinned (.plain (OpenSpec.upto livePeaksSpec)) livePeaksUptoCard

/-- THE SECOND FORM's CARD OF 'lodgelaw21.FuseRows'. -/
def fuseRowsUptoCard : Claim7 := { stood := { row := fuseRowsUptoRow, standIns := [], harness := (true, "d33aeda1eb0ca5fb131a203b9d27d98fa0c1848715344d7bc965e387de122db1"), looks := true }, kinds := [], alts := [], laidByText := true, laidKinds := [.handle, .sentinel, .sentinel, .sentinel, .sentinel, .sentinel, .sentinel], laidTests := true, laidLooks := .later }
def FuseRowsUptoCardSaid : Prop := Claim7.holds Tryd.pinned (.plain (OpenSpec.upto fuseRowsSpec)) fuseRowsUptoCard
end Rows
end Go.Proofs.YtfncabcldhemkaaDoor
