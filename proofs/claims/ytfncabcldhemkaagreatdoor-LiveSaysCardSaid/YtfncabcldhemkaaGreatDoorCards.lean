/-
  DERIVED. GIVEN WITH THE SEED: THE CARDS: each row of YtfncabcldhemkaaGreatDoorRows.lean that lists a variable, with what it lists TIED to the program's text (the seventh form; the later family's looks); each row that meets fmt, with fmt's text TOLD by the authors' own Lean function (tested against real Go, not proved from fmt's source: count such statements apart). THE CARD IS WHAT COUNTS. Prove the row's statement (the work); the ties are given (YtfncabcldhemkaaGreatDoorTie.lean); close each card by the builder's one call (the guide's Derived/Test/ToyasCard.lean, 'card_holds'). Laid BY PROGRAM, IN A SANDBOX (cutbox-door.mjs). By AI agents, Wed Nov 11 2026. No macro, syntax, notation, axiom, sorry.
-/
import Derived.Test.YtfncabcldhemkaaGreatDoorRows
import GoSem.ClaimSeven
namespace Go.Proofs.YtfncabcldhemkaaGreatDoor
namespace Rows

/-- THE TIED CARD OF 'lodgelaw15.CheckInstrs'. -/
def checkInstrsCard : Claim7 := { stood := { row := checkInstrsRow, standIns := [], harness := (true, "f7f4ea558fe5f9f6f8b8e16748a41d22cc99cb4f098a2ed6ca4189ee9083e893"), looks := true }, kinds := [], alts := [], laidByText := true, laidKinds := [.handle, .sentinel, .sentinel, .sentinel, .sentinel, .sentinel, .sentinel, .sentinel, .sentinel, .sentinel, .sentinel, .sentinel, .sentinel, .sentinel, .sentinel, .sentinel, .sentinel, .sentinel, .sentinel, .sentinel, .sentinel, .sentinel], laidTests := true, laidLooks := .later }
def CheckInstrsCardSaid : Prop := Claim7.holds Tryz.pinned (.plain (OpenSpec.ofChange checkInstrsSpec)) checkInstrsCard

/-- THE TIED CARD OF 'lodgelaw15.CheckSays'. -/
def checkSaysCard : Claim7 := { stood := { row := checkSaysRow, standIns := [], harness := (true, "f7f4ea558fe5f9f6f8b8e16748a41d22cc99cb4f098a2ed6ca4189ee9083e893"), looks := true }, kinds := [], alts := [], laidByText := true, laidKinds := [.handle, .sentinel, .sentinel, .sentinel, .sentinel, .sentinel, .sentinel, .sentinel, .sentinel, .sentinel, .sentinel, .sentinel, .sentinel, .sentinel, .sentinel, .sentinel, .sentinel, .sentinel, .sentinel, .sentinel, .sentinel, .sentinel], laidTests := true, laidLooks := .later }
def CheckSaysCardSaid : Prop := Claim7.holds Tryz.pinned (.plain (OpenSpec.ofChange checkSaysSpec)) checkSaysCard

/-- THE TIED CARD OF 'lodgelaw22.LiveSays'. -/
def liveSaysCard : Claim7 := { stood := { row := liveSaysRow, standIns := [], harness := (true, "f7f4ea558fe5f9f6f8b8e16748a41d22cc99cb4f098a2ed6ca4189ee9083e893"), looks := true }, kinds := [], alts := [], laidByText := true, laidKinds := [.handle, .sentinel, .sentinel, .sentinel, .sentinel, .sentinel, .sentinel, .sentinel, .sentinel, .sentinel, .sentinel, .sentinel, .sentinel, .sentinel, .sentinel, .sentinel, .sentinel, .sentinel, .sentinel, .sentinel, .sentinel, .sentinel], laidTests := true, laidLooks := .later }
def LiveSaysCardSaid : Prop := Claim7.holds Tryz.pinned (.plain (OpenSpec.ofChange liveSaysSpec)) liveSaysCard

/-- THE TIED CARD OF 'lodgelaw21.FuseSays'. -/
def fuseSaysCard : Claim7 := { stood := { row := fuseSaysRow, standIns := [], harness := (true, "f7f4ea558fe5f9f6f8b8e16748a41d22cc99cb4f098a2ed6ca4189ee9083e893"), looks := true }, kinds := [], alts := [], laidByText := true, laidKinds := [.handle, .sentinel, .sentinel, .sentinel, .sentinel, .sentinel, .sentinel, .sentinel, .sentinel, .sentinel, .sentinel, .sentinel, .sentinel, .sentinel, .sentinel, .sentinel, .sentinel, .sentinel, .sentinel, .sentinel, .sentinel, .sentinel], laidTests := true, laidLooks := .later }
def FuseSaysCardSaid : Prop := Claim7.holds Tryz.pinned (.plain (OpenSpec.ofChange fuseSaysSpec)) fuseSaysCard

/-- THE SECOND FORM's CARD OF 'lodgelaw15.CheckInstrs'. -/
def checkInstrsUptoCard : Claim7 := { stood := { row := checkInstrsUptoRow, standIns := [], harness := (true, "f7f4ea558fe5f9f6f8b8e16748a41d22cc99cb4f098a2ed6ca4189ee9083e893"), looks := true }, kinds := [], alts := [], laidByText := true, laidKinds := [.handle, .sentinel, .sentinel, .sentinel, .sentinel, .sentinel, .sentinel, .sentinel, .sentinel, .sentinel, .sentinel, .sentinel, .sentinel, .sentinel, .sentinel, .sentinel, .sentinel, .sentinel, .sentinel, .sentinel, .sentinel, .sentinel], laidTests := true, laidLooks := .later }
def CheckInstrsUptoCardSaid : Prop := Claim7.holds Tryz.pinned (.plain (OpenSpec.upto checkInstrsSpec)) checkInstrsUptoCard

/-- THE SECOND FORM's CARD OF 'lodgelaw15.CheckSays'. -/
def checkSaysUptoCard : Claim7 := { stood := { row := checkSaysUptoRow, standIns := [], harness := (true, "f7f4ea558fe5f9f6f8b8e16748a41d22cc99cb4f098a2ed6ca4189ee9083e893"), looks := true }, kinds := [], alts := [], laidByText := true, laidKinds := [.handle, .sentinel, .sentinel, .sentinel, .sentinel, .sentinel, .sentinel, .sentinel, .sentinel, .sentinel, .sentinel, .sentinel, .sentinel, .sentinel, .sentinel, .sentinel, .sentinel, .sentinel, .sentinel, .sentinel, .sentinel, .sentinel], laidTests := true, laidLooks := .later }
def CheckSaysUptoCardSaid : Prop := Claim7.holds Tryz.pinned (.plain (OpenSpec.upto checkSaysSpec)) checkSaysUptoCard

/-- THE SECOND FORM's CARD OF 'lodgelaw22.LiveSays'. -/
def liveSaysUptoCard : Claim7 := { stood := { row := liveSaysUptoRow, standIns := [], harness := (true, "f7f4ea558fe5f9f6f8b8e16748a41d22cc99cb4f098a2ed6ca4189ee9083e893"), looks := true }, kinds := [], alts := [], laidByText := true, laidKinds := [.handle, .sentinel, .sentinel, .sentinel, .sentinel, .sentinel, .sentinel, .sentinel, .sentinel, .sentinel, .sentinel, .sentinel, .sentinel, .sentinel, .sentinel, .sentinel, .sentinel, .sentinel, .sentinel, .sentinel, .sentinel, .sentinel], laidTests := true, laidLooks := .later }
def LiveSaysUptoCardSaid : Prop := Claim7.holds Tryz.pinned (.plain (OpenSpec.upto liveSaysSpec)) liveSaysUptoCard

/-- THE SECOND FORM's CARD OF 'lodgelaw21.FuseSays'. -/
def fuseSaysUptoCard : Claim7 := { stood := { row := fuseSaysUptoRow, standIns := [], harness := (true, "f7f4ea558fe5f9f6f8b8e16748a41d22cc99cb4f098a2ed6ca4189ee9083e893"), looks := true }, kinds := [], alts := [], laidByText := true, laidKinds := [.handle, .sentinel, .sentinel, .sentinel, .sentinel, .sentinel, .sentinel, .sentinel, .sentinel, .sentinel, .sentinel, .sentinel, .sentinel, .sentinel, .sentinel, .sentinel, .sentinel, .sentinel, .sentinel, .sentinel, .sentinel, .sentinel], laidTests := true, laidLooks := .later }
def FuseSaysUptoCardSaid : Prop := Claim7.holds Tryz.pinned (.plain (OpenSpec.upto fuseSaysSpec)) fuseSaysUptoCard
end Rows
end Go.Proofs.YtfncabcldhemkaaGreatDoor
