/-
  NARROWER THAN 'FOR EVERY INPUT', by the rows' own cells (each row's printed sentence says how): PlanCopies: laid · OrderWeights: laid · GenTiles: laid · GenCounts: laid · GenWeights: laid.
  DERIVED. THE GIVEN ROWS OF THIS SEAT. 5 by the template 'for every input the law returns true; each argument reads behind the call as it read before'; 0 by the template 'total and deterministic' (their statements: YtploijbaclgehaaDoorTotals.lean).
  GIVEN WITH THE SEED: the statements are not yours to turn. If you find one false, say at which input.
  Laid BY PROGRAM, IN A SANDBOX (cutbox-rows.mjs): the forced cells as the released guide's own fill.sh prints them over the translation ef23b1559ef9f00f… (all of the seat's roots in one cut). By AI agents, Wed Nov 11 2026. No macro, syntax, notation, axiom, sorry.
-/
import Derived.Test.YtploijbaclgehaaDoorChecked
import GoSem.Claim
import GoSem.ClaimJoined
import GoSem.ClaimMapViews
import Derived.JoinedTies
import Derived.KernelRfl
namespace Go.Proofs.YtploijbaclgehaaDoor
/- THE CELL 'sum', in the pinned program and in every row, IS THE sha256 OF THE DUMP (.gsa) THAT YtploijbaclgehaaDoorProg.lean LOADS. Nothing in Lean hashes anything: it is a label: what it is worth is what the hold of that sum in a sandbox is worth. -/
noncomputable def Tryd.pinned : Pinned := { name := "ytploijbaclgehaadoor", sum := "ef23b1559ef9f00fab57444b1f37879cde63d91a5daac4a32cfc0755cc981838", checked := Tryd.checked }
namespace Rows
def none {H : Type} : Left H := { results := [], args := [] }

/- WHAT THE LISTED PACKAGE-LEVEL VARIABLES READ AS WHEN THE CALL BEGINS. Each datum BY PROGRAM (the guide's laid-datum.mjs) off the statement by which the dump's own 'gosem.cut.vars' lays the variable. In a bare row this is a premise. The card (YtploijbaclgehaaDoorCards.lean) ties it to the program's text. -/
def laid_lodge_api_ErrShape {H : Type} : DataW H := .iface "*errors.errorString" (.ptr (.agg [.lit (.string [110, 111, 116, 32, 116, 104, 101, 32, 115, 104, 97, 112, 101, 32, 116, 104, 97, 116, 32, 105, 116, 32, 104, 97, 115, 32, 116, 111, 32, 104, 97, 118, 101])]))
def laid_lodge_api_ErrRange {H : Type} : DataW H := .iface "*errors.errorString" (.ptr (.agg [.lit (.string [97, 32, 110, 117, 109, 98, 101, 114, 32, 111, 117, 116, 32, 111, 102, 32, 105, 116, 115, 32, 114, 97, 110, 103, 101])]))
def laid_lodge_api_ErrMany {H : Type} : DataW H := .iface "*errors.errorString" (.ptr (.agg [.lit (.string [116, 111, 111, 32, 109, 97, 110, 121])]))
def laid_errors_errorType {H : Type} : DataW H := .iface "internal/reflectlite.rtype" (.agg [.ptr (.lit (.string [101, 114, 114, 111, 114]))])
def laid_lodge_api_ErrKind {H : Type} : DataW H := .iface "*errors.errorString" (.ptr (.agg [.lit (.string [110, 111, 32, 115, 117, 99, 104, 32, 107, 105, 110, 100])]))
def laid_lodge_api_ErrEnd {H : Type} : DataW H := .iface "*errors.errorString" (.ptr (.agg [.lit (.string [105, 116, 32, 101, 110, 100, 115, 32, 116, 111, 111, 32, 101, 97, 114, 108, 121])]))
def laid_lodge_api_ErrRoom {H : Type} : DataW H := .iface "*errors.errorString" (.ptr (.agg [.lit (.string [116, 104, 101, 114, 101, 32, 105, 115, 32, 110, 111, 32, 114, 111, 111, 109])]))
def laid_lodge_api_ErrNone {H : Type} : DataW H := .iface "*errors.errorString" (.ptr (.agg [.lit (.string [116, 104, 101, 114, 101, 32, 105, 115, 32, 110, 111, 110, 101])]))
def laid_lodge_api_ErrAlias {H : Type} : DataW H := .iface "*errors.errorString" (.ptr (.agg [.lit (.string [105, 116, 32, 108, 105, 101, 115, 32, 111, 118, 101, 114, 32, 119, 104, 97, 116, 32, 105, 115, 32, 114, 101, 97, 100])]))
def laid_lodge_api_ErrCost {H : Type} : DataW H := .iface "*errors.errorString" (.ptr (.agg [.lit (.string [105, 116, 32, 99, 111, 115, 116, 115, 32, 116, 111, 111, 32, 109, 117, 99, 104])]))
def laid_lodge_api_ErrJump {H : Type} : DataW H := .iface "*errors.errorString" (.ptr (.agg [.lit (.string [105, 116, 32, 103, 111, 101, 115, 32, 119, 104, 101, 114, 101, 32, 116, 104, 101, 114, 101, 32, 105, 115, 32, 110, 111, 116, 104, 105, 110, 103])]))
def laid_lodge_api_ErrCycle {H : Type} : DataW H := .iface "*errors.errorString" (.ptr (.agg [.lit (.string [105, 116, 32, 103, 111, 101, 115, 32, 114, 111, 117, 110, 100, 32, 105, 110, 32, 97, 32, 114, 105, 110, 103])]))
def laid_lodge_api_ErrFuel {H : Type} : DataW H := .iface "*errors.errorString" (.ptr (.agg [.lit (.string [110, 111, 32, 102, 117, 101, 108, 32, 105, 115, 32, 108, 101, 102, 116])]))
def laid_lodge_api_ErrFull {H : Type} : DataW H := .iface "*errors.errorString" (.ptr (.agg [.lit (.string [116, 104, 101, 32, 113, 117, 101, 117, 101, 32, 105, 115, 32, 102, 117, 108, 108])]))
def laid_lodge_api_ErrQuota {H : Type} : DataW H := .iface "*errors.errorString" (.ptr (.agg [.lit (.string [98, 101, 121, 111, 110, 100, 32, 116, 104, 101, 32, 113, 117, 111, 116, 97])]))
def laid_lodge_api_ErrCap {H : Type} : DataW H := .iface "*errors.errorString" (.ptr (.agg [.lit (.string [110, 111, 32, 115, 117, 99, 104, 32, 114, 105, 103, 104, 116])]))
def laid_lodge_api_ErrStale {H : Type} : DataW H := .iface "*errors.errorString" (.ptr (.agg [.lit (.string [111, 102, 32, 97, 110, 32, 101, 108, 100, 101, 114, 32, 103, 101, 110, 101, 114, 97, 116, 105, 111, 110])]))
def laid_lodge_api_ErrTag {H : Type} : DataW H := .iface "*errors.errorString" (.ptr (.agg [.lit (.string [116, 104, 101, 32, 116, 97, 103, 32, 105, 115, 32, 97, 110, 111, 116, 104, 101, 114, 32, 111, 110, 101])]))
def laid_lodge_api_ErrOld {H : Type} : DataW H := .iface "*errors.errorString" (.ptr (.agg [.lit (.string [97, 32, 99, 111, 117, 110, 116, 101, 114, 32, 116, 104, 97, 116, 32, 105, 115, 32, 110, 111, 116, 32, 97, 98, 111, 118, 101, 32, 116, 104, 101, 32, 108, 97, 115, 116, 32, 111, 110, 101])]))
def laid_lodge_api_ErrTenant {H : Type} : DataW H := .iface "*errors.errorString" (.ptr (.agg [.lit (.string [110, 111, 32, 115, 117, 99, 104, 32, 116, 101, 110, 97, 110, 116])]))
def laid_lodge_api_ErrWord {H : Type} : DataW H := .iface "*errors.errorString" (.ptr (.agg [.lit (.string [110, 111, 32, 115, 117, 99, 104, 32, 119, 111, 114, 100])]))
def laid_lodge_api_ErrNumber {H : Type} : DataW H := .iface "*errors.errorString" (.ptr (.agg [.lit (.string [110, 111, 32, 115, 117, 99, 104, 32, 110, 117, 109, 98, 101, 114])]))

/-- 'lodgelaw14.PlanCopies': WHATEVER THE INPUT: true; the input reads as it did. -/
def planCopiesSpec : ChangeSpec := { name := "planCopies", fn := fun _ => fun
  | [d1, d2, d3] => { results := [.lit (.bool true)], args := [d1, d2, d3] }
  | _ => none }
def planCopiesRow : OpenClaim := { program := "ytploijbaclgehaadoor", sum := "ef23b1559ef9f00fab57444b1f37879cde63d91a5daac4a32cfc0755cc981838", func := "lodge/lodgelaw14.PlanCopies", spec := "planCopies", unfollowed := true, recurses := true, named := ["lodge/api.ErrMany", "lodge/api.ErrRange", "lodge/api.ErrShape"], apart := false, laid := [("lodge/api.ErrShape", laid_lodge_api_ErrShape), ("lodge/api.ErrRange", laid_lodge_api_ErrRange), ("lodge/api.ErrMany", laid_lodge_api_ErrMany)] }
def PlanCopiesSaid : Prop := planCopiesRow.holds Tryd.pinned (OpenSpec.ofChange planCopiesSpec)

/-- ITS FALSE NEIGHBOUR: 'it returns false'. Refute it at one input. -/
def planCopiesWrong : ChangeSpec := { name := "planCopies", fn := fun _ => fun
  | [d1, d2, d3] => { results := [.lit (.bool false)], args := [d1, d2, d3] }
  | _ => none }
def PlanCopiesWrongFalsely : Prop := planCopiesRow.holds Tryd.pinned (OpenSpec.ofChange planCopiesWrong)

/-- 'lodgelaw18.OrderWeights': WHATEVER THE INPUT: true; the input reads as it did. -/
def orderWeightsSpec : ChangeSpec := { name := "orderWeights", fn := fun _ => fun
  | [d1, d2, d3] => { results := [.lit (.bool true)], args := [d1, d2, d3] }
  | _ => none }
def orderWeightsRow : OpenClaim := { program := "ytploijbaclgehaadoor", sum := "ef23b1559ef9f00fab57444b1f37879cde63d91a5daac4a32cfc0755cc981838", func := "lodge/lodgelaw18.OrderWeights", spec := "orderWeights", inPlace := ["internal/reflectlite.ValueOf", "(internal/reflectlite.Value).Type", "(internal/reflectlite.Value).IsNil", "internal/reflectlite.TypeOf", "(internal/reflectlite.Value).Elem", "(internal/reflectlite.Value).Set"], unfollowed := true, recurses := true, named := ["lodge/api.ErrNone", "lodge/api.ErrCycle", "lodge/api.ErrShape", "lodge/api.ErrRange", "lodge/api.ErrKind", "lodge/api.ErrMany", "lodge/api.ErrEnd", "lodge/api.ErrRoom", "lodge/api.ErrAlias", "lodge/api.ErrCost", "lodge/api.ErrJump", "lodge/api.ErrFuel", "lodge/api.ErrFull", "lodge/api.ErrQuota", "lodge/api.ErrCap", "lodge/api.ErrStale", "lodge/api.ErrTag", "lodge/api.ErrOld", "lodge/api.ErrTenant", "lodge/api.ErrWord", "lodge/api.ErrNumber", "errors.errorType"], apart := false, laid := [("errors.errorType", laid_errors_errorType), ("lodge/api.ErrShape", laid_lodge_api_ErrShape), ("lodge/api.ErrRange", laid_lodge_api_ErrRange), ("lodge/api.ErrKind", laid_lodge_api_ErrKind), ("lodge/api.ErrMany", laid_lodge_api_ErrMany), ("lodge/api.ErrEnd", laid_lodge_api_ErrEnd), ("lodge/api.ErrRoom", laid_lodge_api_ErrRoom), ("lodge/api.ErrNone", laid_lodge_api_ErrNone), ("lodge/api.ErrAlias", laid_lodge_api_ErrAlias), ("lodge/api.ErrCost", laid_lodge_api_ErrCost), ("lodge/api.ErrJump", laid_lodge_api_ErrJump), ("lodge/api.ErrCycle", laid_lodge_api_ErrCycle), ("lodge/api.ErrFuel", laid_lodge_api_ErrFuel), ("lodge/api.ErrFull", laid_lodge_api_ErrFull), ("lodge/api.ErrQuota", laid_lodge_api_ErrQuota), ("lodge/api.ErrCap", laid_lodge_api_ErrCap), ("lodge/api.ErrStale", laid_lodge_api_ErrStale), ("lodge/api.ErrTag", laid_lodge_api_ErrTag), ("lodge/api.ErrOld", laid_lodge_api_ErrOld), ("lodge/api.ErrTenant", laid_lodge_api_ErrTenant), ("lodge/api.ErrWord", laid_lodge_api_ErrWord), ("lodge/api.ErrNumber", laid_lodge_api_ErrNumber)] }
def OrderWeightsSaid : Prop := orderWeightsRow.holds Tryd.pinned (OpenSpec.ofChange orderWeightsSpec)

/-- ITS FALSE NEIGHBOUR: 'it returns false'. Refute it at one input. -/
def orderWeightsWrong : ChangeSpec := { name := "orderWeights", fn := fun _ => fun
  | [d1, d2, d3] => { results := [.lit (.bool false)], args := [d1, d2, d3] }
  | _ => none }
def OrderWeightsWrongFalsely : Prop := orderWeightsRow.holds Tryd.pinned (OpenSpec.ofChange orderWeightsWrong)

/-- 'lodgelaw23.GenTiles': WHATEVER THE INPUT: true; the input reads as it did. -/
def genTilesSpec : ChangeSpec := { name := "genTiles", fn := fun _ => fun
  | [d1, d2] => { results := [.lit (.bool true)], args := [d1, d2] }
  | _ => none }
def genTilesRow : OpenClaim := { program := "ytploijbaclgehaadoor", sum := "ef23b1559ef9f00fab57444b1f37879cde63d91a5daac4a32cfc0755cc981838", func := "lodge/lodgelaw23.GenTiles", spec := "genTiles", inPlace := ["internal/reflectlite.ValueOf", "(internal/reflectlite.Value).Type", "(internal/reflectlite.Value).IsNil", "internal/reflectlite.TypeOf", "(internal/reflectlite.Value).Elem", "(internal/reflectlite.Value).Set"], unfollowed := true, recurses := true, named := ["lodge/api.ErrCost", "lodge/api.ErrMany", "lodge/api.ErrNone", "lodge/api.ErrCycle", "lodge/api.ErrKind", "lodge/api.ErrShape", "lodge/api.ErrRange", "errors.errorType", "lodge/api.ErrRoom"], apart := false, laid := [("errors.errorType", laid_errors_errorType), ("lodge/api.ErrShape", laid_lodge_api_ErrShape), ("lodge/api.ErrRange", laid_lodge_api_ErrRange), ("lodge/api.ErrKind", laid_lodge_api_ErrKind), ("lodge/api.ErrMany", laid_lodge_api_ErrMany), ("lodge/api.ErrRoom", laid_lodge_api_ErrRoom), ("lodge/api.ErrNone", laid_lodge_api_ErrNone), ("lodge/api.ErrCost", laid_lodge_api_ErrCost), ("lodge/api.ErrCycle", laid_lodge_api_ErrCycle)] }
def GenTilesSaid : Prop := genTilesRow.holds Tryd.pinned (OpenSpec.ofChange genTilesSpec)

/-- ITS FALSE NEIGHBOUR: 'it returns false'. Refute it at one input. -/
def genTilesWrong : ChangeSpec := { name := "genTiles", fn := fun _ => fun
  | [d1, d2] => { results := [.lit (.bool false)], args := [d1, d2] }
  | _ => none }
def GenTilesWrongFalsely : Prop := genTilesRow.holds Tryd.pinned (OpenSpec.ofChange genTilesWrong)

/-- 'lodgelaw23.GenCounts': WHATEVER THE INPUT: true; the input reads as it did. -/
def genCountsSpec : ChangeSpec := { name := "genCounts", fn := fun _ => fun
  | [d1, d2] => { results := [.lit (.bool true)], args := [d1, d2] }
  | _ => none }
def genCountsRow : OpenClaim := { program := "ytploijbaclgehaadoor", sum := "ef23b1559ef9f00fab57444b1f37879cde63d91a5daac4a32cfc0755cc981838", func := "lodge/lodgelaw23.GenCounts", spec := "genCounts", inPlace := ["internal/reflectlite.ValueOf", "(internal/reflectlite.Value).Type", "(internal/reflectlite.Value).IsNil", "internal/reflectlite.TypeOf", "(internal/reflectlite.Value).Elem", "(internal/reflectlite.Value).Set"], unfollowed := true, recurses := true, named := ["lodge/api.ErrCost", "lodge/api.ErrMany", "lodge/api.ErrNone", "lodge/api.ErrCycle", "lodge/api.ErrKind", "lodge/api.ErrShape", "lodge/api.ErrRange", "errors.errorType", "lodge/api.ErrRoom"], apart := false, laid := [("errors.errorType", laid_errors_errorType), ("lodge/api.ErrShape", laid_lodge_api_ErrShape), ("lodge/api.ErrRange", laid_lodge_api_ErrRange), ("lodge/api.ErrKind", laid_lodge_api_ErrKind), ("lodge/api.ErrMany", laid_lodge_api_ErrMany), ("lodge/api.ErrRoom", laid_lodge_api_ErrRoom), ("lodge/api.ErrNone", laid_lodge_api_ErrNone), ("lodge/api.ErrCost", laid_lodge_api_ErrCost), ("lodge/api.ErrCycle", laid_lodge_api_ErrCycle)] }
def GenCountsSaid : Prop := genCountsRow.holds Tryd.pinned (OpenSpec.ofChange genCountsSpec)

/-- ITS FALSE NEIGHBOUR: 'it returns false'. Refute it at one input. -/
def genCountsWrong : ChangeSpec := { name := "genCounts", fn := fun _ => fun
  | [d1, d2] => { results := [.lit (.bool false)], args := [d1, d2] }
  | _ => none }
def GenCountsWrongFalsely : Prop := genCountsRow.holds Tryd.pinned (OpenSpec.ofChange genCountsWrong)

/-- 'lodgelaw23.GenWeights': WHATEVER THE INPUT: true; the input reads as it did. -/
def genWeightsSpec : ChangeSpec := { name := "genWeights", fn := fun _ => fun
  | [d1, d2] => { results := [.lit (.bool true)], args := [d1, d2] }
  | _ => none }
def genWeightsRow : OpenClaim := { program := "ytploijbaclgehaadoor", sum := "ef23b1559ef9f00fab57444b1f37879cde63d91a5daac4a32cfc0755cc981838", func := "lodge/lodgelaw23.GenWeights", spec := "genWeights", inPlace := ["internal/reflectlite.ValueOf", "(internal/reflectlite.Value).Type", "(internal/reflectlite.Value).IsNil", "internal/reflectlite.TypeOf", "(internal/reflectlite.Value).Elem", "(internal/reflectlite.Value).Set"], unfollowed := true, recurses := true, named := ["lodge/api.ErrCost", "lodge/api.ErrMany", "lodge/api.ErrNone", "lodge/api.ErrCycle", "lodge/api.ErrKind", "lodge/api.ErrShape", "lodge/api.ErrRange", "errors.errorType", "lodge/api.ErrRoom"], apart := false, laid := [("errors.errorType", laid_errors_errorType), ("lodge/api.ErrShape", laid_lodge_api_ErrShape), ("lodge/api.ErrRange", laid_lodge_api_ErrRange), ("lodge/api.ErrKind", laid_lodge_api_ErrKind), ("lodge/api.ErrMany", laid_lodge_api_ErrMany), ("lodge/api.ErrRoom", laid_lodge_api_ErrRoom), ("lodge/api.ErrNone", laid_lodge_api_ErrNone), ("lodge/api.ErrCost", laid_lodge_api_ErrCost), ("lodge/api.ErrCycle", laid_lodge_api_ErrCycle)] }
def GenWeightsSaid : Prop := genWeightsRow.holds Tryd.pinned (OpenSpec.ofChange genWeightsSpec)

/-- ITS FALSE NEIGHBOUR: 'it returns false'. Refute it at one input. -/
def genWeightsWrong : ChangeSpec := { name := "genWeights", fn := fun _ => fun
  | [d1, d2] => { results := [.lit (.bool false)], args := [d1, d2] }
  | _ => none }
def GenWeightsWrongFalsely : Prop := genWeightsRow.holds Tryd.pinned (OpenSpec.ofChange genWeightsWrong)

/- THE SECOND FORM. 'bulk': how many values and letters a reading holds, each counted each time it is reached (what is shared counts as often as it is met; a slice's spare places count too). A statement '..UptoSaid' is the law's where the arguments, and the package variables that the reading takes, are together of bulk at most 1048576: NARROWER than '..Said'. Prove '..Said' where nothing that the law and all that it calls make is longer than what came in: it says more and counts as full. Else prove '..UptoSaid'. A law counts once. -/
mutual
def uptoBulk {H : Type} : DataW H → Nat
  | .lit (.string bytes) => bytes.length + 1
  | .lit _ => 1
  | .nil => 1
  | .ptr d => uptoBulk d + 1
  | .slice elems spare => uptoBulkAll elems + uptoBulkAll spare + 1
  | .agg parts => uptoBulkAll parts + 1
  | .iface _ d => uptoBulk d + 1
  | .map entries => uptoBulkEntries entries + 1
  | .held _ => 1
def uptoBulkAll {H : Type} : List (DataW H) → Nat
  | [] => 0
  | d :: r => uptoBulk d + uptoBulkAll r
def uptoBulkEntries {H : Type} : List (Lit × DataW H) → Nat
  | [] => 0
  | x :: r => uptoBulkEntry x + uptoBulkEntries r
def uptoBulkEntry {H : Type} : Lit × DataW H → Nat
  | (.string bytes, d) => bytes.length + uptoBulk d + 1
  | (_, d) => uptoBulk d + 1
 end
def uptoSmall : (H : Type) → List (DataW H) → Bool := fun _ ds => decide (uptoBulkAll ds ≤ 1048576)
def OpenSpec.upto (s : _root_.Go.ChangeSpec) : _root_.Go.OpenSpec := { _root_.Go.OpenSpec.ofChange s with cond := some uptoSmall }

/-- 'lodgelaw14.PlanCopies', WHERE WHAT IT READS IS OF BULK AT MOST 1048576: true; the input reads as it did. -/
def planCopiesUptoRow : OpenClaim := { program := "ytploijbaclgehaadoor", sum := "ef23b1559ef9f00fab57444b1f37879cde63d91a5daac4a32cfc0755cc981838", func := "lodge/lodgelaw14.PlanCopies", spec := "planCopies", unfollowed := true, recurses := true, named := ["lodge/api.ErrMany", "lodge/api.ErrRange", "lodge/api.ErrShape"], apart := false, laid := [("lodge/api.ErrShape", laid_lodge_api_ErrShape), ("lodge/api.ErrRange", laid_lodge_api_ErrRange), ("lodge/api.ErrMany", laid_lodge_api_ErrMany)], narrowed := true }
def PlanCopiesUptoSaid : Prop := planCopiesUptoRow.holds Tryd.pinned (OpenSpec.upto planCopiesSpec)

/-- 'lodgelaw18.OrderWeights', WHERE WHAT IT READS IS OF BULK AT MOST 1048576: true; the input reads as it did. -/
def orderWeightsUptoRow : OpenClaim := { program := "ytploijbaclgehaadoor", sum := "ef23b1559ef9f00fab57444b1f37879cde63d91a5daac4a32cfc0755cc981838", func := "lodge/lodgelaw18.OrderWeights", spec := "orderWeights", inPlace := ["internal/reflectlite.ValueOf", "(internal/reflectlite.Value).Type", "(internal/reflectlite.Value).IsNil", "internal/reflectlite.TypeOf", "(internal/reflectlite.Value).Elem", "(internal/reflectlite.Value).Set"], unfollowed := true, recurses := true, named := ["lodge/api.ErrNone", "lodge/api.ErrCycle", "lodge/api.ErrShape", "lodge/api.ErrRange", "lodge/api.ErrKind", "lodge/api.ErrMany", "lodge/api.ErrEnd", "lodge/api.ErrRoom", "lodge/api.ErrAlias", "lodge/api.ErrCost", "lodge/api.ErrJump", "lodge/api.ErrFuel", "lodge/api.ErrFull", "lodge/api.ErrQuota", "lodge/api.ErrCap", "lodge/api.ErrStale", "lodge/api.ErrTag", "lodge/api.ErrOld", "lodge/api.ErrTenant", "lodge/api.ErrWord", "lodge/api.ErrNumber", "errors.errorType"], apart := false, laid := [("errors.errorType", laid_errors_errorType), ("lodge/api.ErrShape", laid_lodge_api_ErrShape), ("lodge/api.ErrRange", laid_lodge_api_ErrRange), ("lodge/api.ErrKind", laid_lodge_api_ErrKind), ("lodge/api.ErrMany", laid_lodge_api_ErrMany), ("lodge/api.ErrEnd", laid_lodge_api_ErrEnd), ("lodge/api.ErrRoom", laid_lodge_api_ErrRoom), ("lodge/api.ErrNone", laid_lodge_api_ErrNone), ("lodge/api.ErrAlias", laid_lodge_api_ErrAlias), ("lodge/api.ErrCost", laid_lodge_api_ErrCost), ("lodge/api.ErrJump", laid_lodge_api_ErrJump), ("lodge/api.ErrCycle", laid_lodge_api_ErrCycle), ("lodge/api.ErrFuel", laid_lodge_api_ErrFuel), ("lodge/api.ErrFull", laid_lodge_api_ErrFull), ("lodge/api.ErrQuota", laid_lodge_api_ErrQuota), ("lodge/api.ErrCap", laid_lodge_api_ErrCap), ("lodge/api.ErrStale", laid_lodge_api_ErrStale), ("lodge/api.ErrTag", laid_lodge_api_ErrTag), ("lodge/api.ErrOld", laid_lodge_api_ErrOld), ("lodge/api.ErrTenant", laid_lodge_api_ErrTenant), ("lodge/api.ErrWord", laid_lodge_api_ErrWord), ("lodge/api.ErrNumber", laid_lodge_api_ErrNumber)], narrowed := true }
def OrderWeightsUptoSaid : Prop := orderWeightsUptoRow.holds Tryd.pinned (OpenSpec.upto orderWeightsSpec)

/-- 'lodgelaw23.GenTiles', WHERE WHAT IT READS IS OF BULK AT MOST 1048576: true; the input reads as it did. -/
def genTilesUptoRow : OpenClaim := { program := "ytploijbaclgehaadoor", sum := "ef23b1559ef9f00fab57444b1f37879cde63d91a5daac4a32cfc0755cc981838", func := "lodge/lodgelaw23.GenTiles", spec := "genTiles", inPlace := ["internal/reflectlite.ValueOf", "(internal/reflectlite.Value).Type", "(internal/reflectlite.Value).IsNil", "internal/reflectlite.TypeOf", "(internal/reflectlite.Value).Elem", "(internal/reflectlite.Value).Set"], unfollowed := true, recurses := true, named := ["lodge/api.ErrCost", "lodge/api.ErrMany", "lodge/api.ErrNone", "lodge/api.ErrCycle", "lodge/api.ErrKind", "lodge/api.ErrShape", "lodge/api.ErrRange", "errors.errorType", "lodge/api.ErrRoom"], apart := false, laid := [("errors.errorType", laid_errors_errorType), ("lodge/api.ErrShape", laid_lodge_api_ErrShape), ("lodge/api.ErrRange", laid_lodge_api_ErrRange), ("lodge/api.ErrKind", laid_lodge_api_ErrKind), ("lodge/api.ErrMany", laid_lodge_api_ErrMany), ("lodge/api.ErrRoom", laid_lodge_api_ErrRoom), ("lodge/api.ErrNone", laid_lodge_api_ErrNone), ("lodge/api.ErrCost", laid_lodge_api_ErrCost), ("lodge/api.ErrCycle", laid_lodge_api_ErrCycle)], narrowed := true }
def GenTilesUptoSaid : Prop := genTilesUptoRow.holds Tryd.pinned (OpenSpec.upto genTilesSpec)

/-- 'lodgelaw23.GenCounts', WHERE WHAT IT READS IS OF BULK AT MOST 1048576: true; the input reads as it did. -/
def genCountsUptoRow : OpenClaim := { program := "ytploijbaclgehaadoor", sum := "ef23b1559ef9f00fab57444b1f37879cde63d91a5daac4a32cfc0755cc981838", func := "lodge/lodgelaw23.GenCounts", spec := "genCounts", inPlace := ["internal/reflectlite.ValueOf", "(internal/reflectlite.Value).Type", "(internal/reflectlite.Value).IsNil", "internal/reflectlite.TypeOf", "(internal/reflectlite.Value).Elem", "(internal/reflectlite.Value).Set"], unfollowed := true, recurses := true, named := ["lodge/api.ErrCost", "lodge/api.ErrMany", "lodge/api.ErrNone", "lodge/api.ErrCycle", "lodge/api.ErrKind", "lodge/api.ErrShape", "lodge/api.ErrRange", "errors.errorType", "lodge/api.ErrRoom"], apart := false, laid := [("errors.errorType", laid_errors_errorType), ("lodge/api.ErrShape", laid_lodge_api_ErrShape), ("lodge/api.ErrRange", laid_lodge_api_ErrRange), ("lodge/api.ErrKind", laid_lodge_api_ErrKind), ("lodge/api.ErrMany", laid_lodge_api_ErrMany), ("lodge/api.ErrRoom", laid_lodge_api_ErrRoom), ("lodge/api.ErrNone", laid_lodge_api_ErrNone), ("lodge/api.ErrCost", laid_lodge_api_ErrCost), ("lodge/api.ErrCycle", laid_lodge_api_ErrCycle)], narrowed := true }
def GenCountsUptoSaid : Prop := genCountsUptoRow.holds Tryd.pinned (OpenSpec.upto genCountsSpec)

/-- 'lodgelaw23.GenWeights', WHERE WHAT IT READS IS OF BULK AT MOST 1048576: true; the input reads as it did. -/
def genWeightsUptoRow : OpenClaim := { program := "ytploijbaclgehaadoor", sum := "ef23b1559ef9f00fab57444b1f37879cde63d91a5daac4a32cfc0755cc981838", func := "lodge/lodgelaw23.GenWeights", spec := "genWeights", inPlace := ["internal/reflectlite.ValueOf", "(internal/reflectlite.Value).Type", "(internal/reflectlite.Value).IsNil", "internal/reflectlite.TypeOf", "(internal/reflectlite.Value).Elem", "(internal/reflectlite.Value).Set"], unfollowed := true, recurses := true, named := ["lodge/api.ErrCost", "lodge/api.ErrMany", "lodge/api.ErrNone", "lodge/api.ErrCycle", "lodge/api.ErrKind", "lodge/api.ErrShape", "lodge/api.ErrRange", "errors.errorType", "lodge/api.ErrRoom"], apart := false, laid := [("errors.errorType", laid_errors_errorType), ("lodge/api.ErrShape", laid_lodge_api_ErrShape), ("lodge/api.ErrRange", laid_lodge_api_ErrRange), ("lodge/api.ErrKind", laid_lodge_api_ErrKind), ("lodge/api.ErrMany", laid_lodge_api_ErrMany), ("lodge/api.ErrRoom", laid_lodge_api_ErrRoom), ("lodge/api.ErrNone", laid_lodge_api_ErrNone), ("lodge/api.ErrCost", laid_lodge_api_ErrCost), ("lodge/api.ErrCycle", laid_lodge_api_ErrCycle)], narrowed := true }
def GenWeightsUptoSaid : Prop := genWeightsUptoRow.holds Tryd.pinned (OpenSpec.upto genWeightsSpec)

end Rows
end Go.Proofs.YtploijbaclgehaaDoor
