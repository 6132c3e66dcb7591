/-
  NARROWER THAN 'FOR EVERY INPUT', by the rows' own cells (each row's printed sentence says how): OrderSorts: laid · OrderRows: laid · GraphBytes: laid · GraphUses: laid · PlanCopies: laid · GraphBounds: laid · GraphBack: laid · PlanAgain: laid · PlanBounds: laid · PlanNumbers: laid · OrderWeights: laid.
  DERIVED. THE GIVEN ROWS OF THIS SEAT. 11 by the template 'for every input the law returns true; each argument reads behind the call as it read before'; 0 by the template 'total and deterministic' (their statements: YtfdhkijgolgnfaaDoorTotals.lean).
  GIVEN WITH THE SEED: the statements are not yours to turn. If you find one false, say at which input.
  Laid BY PROGRAM, IN A SANDBOX (cutbox-rows.mjs): the forced cells as the released guide's own fill.sh prints them over the translation cf2d00da052182dc… (all of the seat's roots in one cut). By AI agents, Wed Nov 11 2026. No macro, syntax, notation, axiom, sorry.
-/
import Derived.Test.YtfdhkijgolgnfaaDoorChecked
import GoSem.Claim
import GoSem.ClaimJoined
import GoSem.ClaimMapViews
import Derived.JoinedTies
import Derived.KernelRfl
namespace Go.Proofs.YtfdhkijgolgnfaaDoor
/- THE CELL 'sum', in the pinned program and in every row, IS THE sha256 OF THE DUMP (.gsa) THAT YtfdhkijgolgnfaaDoorProg.lean LOADS. Nothing in Lean hashes anything: it is a label: what it is worth is what the hold of that sum in a sandbox is worth. -/
noncomputable def Tryd.pinned : Pinned := { name := "ytfdhkijgolgnfaadoor", sum := "cf2d00da052182dc16b99ff703b679e8e6ba1aa6d43ebc6b6cddacc65092f62a", checked := Tryd.checked }
namespace Rows
def none {H : Type} : Left H := { results := [], args := [] }

/- WHAT THE LISTED PACKAGE-LEVEL VARIABLES READ AS WHEN THE CALL BEGINS. Each datum BY PROGRAM (the guide's laid-datum.mjs) off the statement by which the dump's own 'gosem.cut.vars' lays the variable. In a bare row this is a premise. The card (YtfdhkijgolgnfaaDoorCards.lean) ties it to the program's text. -/
def laid_lodge_api_ErrShape {H : Type} : DataW H := .iface "*errors.errorString" (.ptr (.agg [.lit (.string [110, 111, 116, 32, 116, 104, 101, 32, 115, 104, 97, 112, 101, 32, 116, 104, 97, 116, 32, 105, 116, 32, 104, 97, 115, 32, 116, 111, 32, 104, 97, 118, 101])]))
def laid_lodge_api_ErrRange {H : Type} : DataW H := .iface "*errors.errorString" (.ptr (.agg [.lit (.string [97, 32, 110, 117, 109, 98, 101, 114, 32, 111, 117, 116, 32, 111, 102, 32, 105, 116, 115, 32, 114, 97, 110, 103, 101])]))
def laid_lodge_api_ErrKind {H : Type} : DataW H := .iface "*errors.errorString" (.ptr (.agg [.lit (.string [110, 111, 32, 115, 117, 99, 104, 32, 107, 105, 110, 100])]))
def laid_lodge_api_ErrMany {H : Type} : DataW H := .iface "*errors.errorString" (.ptr (.agg [.lit (.string [116, 111, 111, 32, 109, 97, 110, 121])]))
def laid_lodge_api_ErrEnd {H : Type} : DataW H := .iface "*errors.errorString" (.ptr (.agg [.lit (.string [105, 116, 32, 101, 110, 100, 115, 32, 116, 111, 111, 32, 101, 97, 114, 108, 121])]))
def laid_lodge_api_ErrRoom {H : Type} : DataW H := .iface "*errors.errorString" (.ptr (.agg [.lit (.string [116, 104, 101, 114, 101, 32, 105, 115, 32, 110, 111, 32, 114, 111, 111, 109])]))
def laid_lodge_api_ErrNone {H : Type} : DataW H := .iface "*errors.errorString" (.ptr (.agg [.lit (.string [116, 104, 101, 114, 101, 32, 105, 115, 32, 110, 111, 110, 101])]))
def laid_lodge_api_ErrAlias {H : Type} : DataW H := .iface "*errors.errorString" (.ptr (.agg [.lit (.string [105, 116, 32, 108, 105, 101, 115, 32, 111, 118, 101, 114, 32, 119, 104, 97, 116, 32, 105, 115, 32, 114, 101, 97, 100])]))
def laid_lodge_api_ErrCost {H : Type} : DataW H := .iface "*errors.errorString" (.ptr (.agg [.lit (.string [105, 116, 32, 99, 111, 115, 116, 115, 32, 116, 111, 111, 32, 109, 117, 99, 104])]))
def laid_lodge_api_ErrJump {H : Type} : DataW H := .iface "*errors.errorString" (.ptr (.agg [.lit (.string [105, 116, 32, 103, 111, 101, 115, 32, 119, 104, 101, 114, 101, 32, 116, 104, 101, 114, 101, 32, 105, 115, 32, 110, 111, 116, 104, 105, 110, 103])]))
def laid_lodge_api_ErrCycle {H : Type} : DataW H := .iface "*errors.errorString" (.ptr (.agg [.lit (.string [105, 116, 32, 103, 111, 101, 115, 32, 114, 111, 117, 110, 100, 32, 105, 110, 32, 97, 32, 114, 105, 110, 103])]))
def laid_lodge_api_ErrFuel {H : Type} : DataW H := .iface "*errors.errorString" (.ptr (.agg [.lit (.string [110, 111, 32, 102, 117, 101, 108, 32, 105, 115, 32, 108, 101, 102, 116])]))
def laid_lodge_api_ErrFull {H : Type} : DataW H := .iface "*errors.errorString" (.ptr (.agg [.lit (.string [116, 104, 101, 32, 113, 117, 101, 117, 101, 32, 105, 115, 32, 102, 117, 108, 108])]))
def laid_lodge_api_ErrQuota {H : Type} : DataW H := .iface "*errors.errorString" (.ptr (.agg [.lit (.string [98, 101, 121, 111, 110, 100, 32, 116, 104, 101, 32, 113, 117, 111, 116, 97])]))
def laid_lodge_api_ErrCap {H : Type} : DataW H := .iface "*errors.errorString" (.ptr (.agg [.lit (.string [110, 111, 32, 115, 117, 99, 104, 32, 114, 105, 103, 104, 116])]))
def laid_lodge_api_ErrStale {H : Type} : DataW H := .iface "*errors.errorString" (.ptr (.agg [.lit (.string [111, 102, 32, 97, 110, 32, 101, 108, 100, 101, 114, 32, 103, 101, 110, 101, 114, 97, 116, 105, 111, 110])]))
def laid_lodge_api_ErrTag {H : Type} : DataW H := .iface "*errors.errorString" (.ptr (.agg [.lit (.string [116, 104, 101, 32, 116, 97, 103, 32, 105, 115, 32, 97, 110, 111, 116, 104, 101, 114, 32, 111, 110, 101])]))
def laid_lodge_api_ErrOld {H : Type} : DataW H := .iface "*errors.errorString" (.ptr (.agg [.lit (.string [97, 32, 99, 111, 117, 110, 116, 101, 114, 32, 116, 104, 97, 116, 32, 105, 115, 32, 110, 111, 116, 32, 97, 98, 111, 118, 101, 32, 116, 104, 101, 32, 108, 97, 115, 116, 32, 111, 110, 101])]))
def laid_lodge_api_ErrTenant {H : Type} : DataW H := .iface "*errors.errorString" (.ptr (.agg [.lit (.string [110, 111, 32, 115, 117, 99, 104, 32, 116, 101, 110, 97, 110, 116])]))
def laid_lodge_api_ErrWord {H : Type} : DataW H := .iface "*errors.errorString" (.ptr (.agg [.lit (.string [110, 111, 32, 115, 117, 99, 104, 32, 119, 111, 114, 100])]))
def laid_lodge_api_ErrNumber {H : Type} : DataW H := .iface "*errors.errorString" (.ptr (.agg [.lit (.string [110, 111, 32, 115, 117, 99, 104, 32, 110, 117, 109, 98, 101, 114])]))
def laid_errors_errorType {H : Type} : DataW H := .iface "internal/reflectlite.rtype" (.agg [.ptr (.lit (.string [101, 114, 114, 111, 114]))])

/-- 'lodgelaw18.OrderSorts': WHATEVER THE INPUT: true; the input reads as it did. -/
def orderSortsSpec : ChangeSpec := { name := "orderSorts", fn := fun _ => fun
  | [d] => { results := [.lit (.bool true)], args := [d] }
  | _ => none }
def orderSortsRow : OpenClaim := { program := "ytfdhkijgolgnfaadoor", sum := "cf2d00da052182dc16b99ff703b679e8e6ba1aa6d43ebc6b6cddacc65092f62a", func := "lodge/lodgelaw18.OrderSorts", spec := "orderSorts", named := ["lodge/api.ErrNone", "lodge/api.ErrCycle", "lodge/api.ErrShape", "lodge/api.ErrRange", "lodge/api.ErrKind", "lodge/api.ErrMany", "lodge/api.ErrEnd", "lodge/api.ErrRoom", "lodge/api.ErrAlias", "lodge/api.ErrCost", "lodge/api.ErrJump", "lodge/api.ErrFuel", "lodge/api.ErrFull", "lodge/api.ErrQuota", "lodge/api.ErrCap", "lodge/api.ErrStale", "lodge/api.ErrTag", "lodge/api.ErrOld", "lodge/api.ErrTenant", "lodge/api.ErrWord", "lodge/api.ErrNumber"], apart := false, laid := [("lodge/api.ErrShape", laid_lodge_api_ErrShape), ("lodge/api.ErrRange", laid_lodge_api_ErrRange), ("lodge/api.ErrKind", laid_lodge_api_ErrKind), ("lodge/api.ErrMany", laid_lodge_api_ErrMany), ("lodge/api.ErrEnd", laid_lodge_api_ErrEnd), ("lodge/api.ErrRoom", laid_lodge_api_ErrRoom), ("lodge/api.ErrNone", laid_lodge_api_ErrNone), ("lodge/api.ErrAlias", laid_lodge_api_ErrAlias), ("lodge/api.ErrCost", laid_lodge_api_ErrCost), ("lodge/api.ErrJump", laid_lodge_api_ErrJump), ("lodge/api.ErrCycle", laid_lodge_api_ErrCycle), ("lodge/api.ErrFuel", laid_lodge_api_ErrFuel), ("lodge/api.ErrFull", laid_lodge_api_ErrFull), ("lodge/api.ErrQuota", laid_lodge_api_ErrQuota), ("lodge/api.ErrCap", laid_lodge_api_ErrCap), ("lodge/api.ErrStale", laid_lodge_api_ErrStale), ("lodge/api.ErrTag", laid_lodge_api_ErrTag), ("lodge/api.ErrOld", laid_lodge_api_ErrOld), ("lodge/api.ErrTenant", laid_lodge_api_ErrTenant), ("lodge/api.ErrWord", laid_lodge_api_ErrWord), ("lodge/api.ErrNumber", laid_lodge_api_ErrNumber)] }
def OrderSortsSaid : Prop := orderSortsRow.holds Tryd.pinned (OpenSpec.ofChange orderSortsSpec)

/-- ITS FALSE NEIGHBOUR: 'it returns false'. Refute it at one input. -/
def orderSortsWrong : ChangeSpec := { name := "orderSorts", fn := fun _ => fun
  | [d] => { results := [.lit (.bool false)], args := [d] }
  | _ => none }
def OrderSortsWrongFalsely : Prop := orderSortsRow.holds Tryd.pinned (OpenSpec.ofChange orderSortsWrong)

/-- 'lodgelaw18.OrderRows': WHATEVER THE INPUT: true; the input reads as it did. -/
def orderRowsSpec : ChangeSpec := { name := "orderRows", fn := fun _ => fun
  | [d1, d2] => { results := [.lit (.bool true)], args := [d1, d2] }
  | _ => none }
def orderRowsRow : OpenClaim := { program := "ytfdhkijgolgnfaadoor", sum := "cf2d00da052182dc16b99ff703b679e8e6ba1aa6d43ebc6b6cddacc65092f62a", func := "lodge/lodgelaw18.OrderRows", spec := "orderRows", named := ["lodge/api.ErrNone", "lodge/api.ErrCycle", "lodge/api.ErrShape", "lodge/api.ErrRange", "lodge/api.ErrKind", "lodge/api.ErrMany", "lodge/api.ErrEnd", "lodge/api.ErrRoom", "lodge/api.ErrAlias", "lodge/api.ErrCost", "lodge/api.ErrJump", "lodge/api.ErrFuel", "lodge/api.ErrFull", "lodge/api.ErrQuota", "lodge/api.ErrCap", "lodge/api.ErrStale", "lodge/api.ErrTag", "lodge/api.ErrOld", "lodge/api.ErrTenant", "lodge/api.ErrWord", "lodge/api.ErrNumber"], apart := false, laid := [("lodge/api.ErrShape", laid_lodge_api_ErrShape), ("lodge/api.ErrRange", laid_lodge_api_ErrRange), ("lodge/api.ErrKind", laid_lodge_api_ErrKind), ("lodge/api.ErrMany", laid_lodge_api_ErrMany), ("lodge/api.ErrEnd", laid_lodge_api_ErrEnd), ("lodge/api.ErrRoom", laid_lodge_api_ErrRoom), ("lodge/api.ErrNone", laid_lodge_api_ErrNone), ("lodge/api.ErrAlias", laid_lodge_api_ErrAlias), ("lodge/api.ErrCost", laid_lodge_api_ErrCost), ("lodge/api.ErrJump", laid_lodge_api_ErrJump), ("lodge/api.ErrCycle", laid_lodge_api_ErrCycle), ("lodge/api.ErrFuel", laid_lodge_api_ErrFuel), ("lodge/api.ErrFull", laid_lodge_api_ErrFull), ("lodge/api.ErrQuota", laid_lodge_api_ErrQuota), ("lodge/api.ErrCap", laid_lodge_api_ErrCap), ("lodge/api.ErrStale", laid_lodge_api_ErrStale), ("lodge/api.ErrTag", laid_lodge_api_ErrTag), ("lodge/api.ErrOld", laid_lodge_api_ErrOld), ("lodge/api.ErrTenant", laid_lodge_api_ErrTenant), ("lodge/api.ErrWord", laid_lodge_api_ErrWord), ("lodge/api.ErrNumber", laid_lodge_api_ErrNumber)] }
def OrderRowsSaid : Prop := orderRowsRow.holds Tryd.pinned (OpenSpec.ofChange orderRowsSpec)

/-- ITS FALSE NEIGHBOUR: 'it returns false'. Refute it at one input. -/
def orderRowsWrong : ChangeSpec := { name := "orderRows", fn := fun _ => fun
  | [d1, d2] => { results := [.lit (.bool false)], args := [d1, d2] }
  | _ => none }
def OrderRowsWrongFalsely : Prop := orderRowsRow.holds Tryd.pinned (OpenSpec.ofChange orderRowsWrong)

/-- 'lodgelaw17.GraphBytes': WHATEVER THE INPUT: true; the input reads as it did. -/
def graphBytesSpec : ChangeSpec := { name := "graphBytes", fn := fun _ => fun
  | [d] => { results := [.lit (.bool true)], args := [d] }
  | _ => none }
def graphBytesRow : OpenClaim := { program := "ytfdhkijgolgnfaadoor", sum := "cf2d00da052182dc16b99ff703b679e8e6ba1aa6d43ebc6b6cddacc65092f62a", func := "lodge/lodgelaw17.GraphBytes", spec := "graphBytes", unfollowed := true, recurses := true, named := ["lodge/api.ErrMany", "lodge/api.ErrRange", "lodge/api.ErrShape", "lodge/api.ErrKind", "lodge/api.ErrEnd", "lodge/api.ErrRoom", "lodge/api.ErrNone", "lodge/api.ErrAlias", "lodge/api.ErrCost", "lodge/api.ErrJump", "lodge/api.ErrCycle", "lodge/api.ErrFuel", "lodge/api.ErrFull", "lodge/api.ErrQuota", "lodge/api.ErrCap", "lodge/api.ErrStale", "lodge/api.ErrTag", "lodge/api.ErrOld", "lodge/api.ErrTenant", "lodge/api.ErrWord", "lodge/api.ErrNumber"], apart := false, laid := [("lodge/api.ErrShape", laid_lodge_api_ErrShape), ("lodge/api.ErrRange", laid_lodge_api_ErrRange), ("lodge/api.ErrKind", laid_lodge_api_ErrKind), ("lodge/api.ErrMany", laid_lodge_api_ErrMany), ("lodge/api.ErrEnd", laid_lodge_api_ErrEnd), ("lodge/api.ErrRoom", laid_lodge_api_ErrRoom), ("lodge/api.ErrNone", laid_lodge_api_ErrNone), ("lodge/api.ErrAlias", laid_lodge_api_ErrAlias), ("lodge/api.ErrCost", laid_lodge_api_ErrCost), ("lodge/api.ErrJump", laid_lodge_api_ErrJump), ("lodge/api.ErrCycle", laid_lodge_api_ErrCycle), ("lodge/api.ErrFuel", laid_lodge_api_ErrFuel), ("lodge/api.ErrFull", laid_lodge_api_ErrFull), ("lodge/api.ErrQuota", laid_lodge_api_ErrQuota), ("lodge/api.ErrCap", laid_lodge_api_ErrCap), ("lodge/api.ErrStale", laid_lodge_api_ErrStale), ("lodge/api.ErrTag", laid_lodge_api_ErrTag), ("lodge/api.ErrOld", laid_lodge_api_ErrOld), ("lodge/api.ErrTenant", laid_lodge_api_ErrTenant), ("lodge/api.ErrWord", laid_lodge_api_ErrWord), ("lodge/api.ErrNumber", laid_lodge_api_ErrNumber)] }
def GraphBytesSaid : Prop := graphBytesRow.holds Tryd.pinned (OpenSpec.ofChange graphBytesSpec)

/-- ITS FALSE NEIGHBOUR: 'it returns false'. Refute it at one input. -/
def graphBytesWrong : ChangeSpec := { name := "graphBytes", fn := fun _ => fun
  | [d] => { results := [.lit (.bool false)], args := [d] }
  | _ => none }
def GraphBytesWrongFalsely : Prop := graphBytesRow.holds Tryd.pinned (OpenSpec.ofChange graphBytesWrong)

/-- 'lodgelaw17.GraphUses': WHATEVER THE INPUT: true; the input reads as it did. -/
def graphUsesSpec : ChangeSpec := { name := "graphUses", fn := fun _ => fun
  | [d] => { results := [.lit (.bool true)], args := [d] }
  | _ => none }
def graphUsesRow : OpenClaim := { program := "ytfdhkijgolgnfaadoor", sum := "cf2d00da052182dc16b99ff703b679e8e6ba1aa6d43ebc6b6cddacc65092f62a", func := "lodge/lodgelaw17.GraphUses", spec := "graphUses", unfollowed := true, recurses := true, named := ["lodge/api.ErrMany", "lodge/api.ErrRange", "lodge/api.ErrShape"], apart := false, laid := [("lodge/api.ErrShape", laid_lodge_api_ErrShape), ("lodge/api.ErrRange", laid_lodge_api_ErrRange), ("lodge/api.ErrMany", laid_lodge_api_ErrMany)] }
def GraphUsesSaid : Prop := graphUsesRow.holds Tryd.pinned (OpenSpec.ofChange graphUsesSpec)

/-- ITS FALSE NEIGHBOUR: 'it returns false'. Refute it at one input. -/
def graphUsesWrong : ChangeSpec := { name := "graphUses", fn := fun _ => fun
  | [d] => { results := [.lit (.bool false)], args := [d] }
  | _ => none }
def GraphUsesWrongFalsely : Prop := graphUsesRow.holds Tryd.pinned (OpenSpec.ofChange graphUsesWrong)

/-- 'lodgelaw14.PlanCopies': WHATEVER THE INPUT: true; the input reads as it did. -/
def planCopiesSpec : ChangeSpec := { name := "planCopies", fn := fun _ => fun
  | [d1, d2, d3] => { results := [.lit (.bool true)], args := [d1, d2, d3] }
  | _ => none }
def planCopiesRow : OpenClaim := { program := "ytfdhkijgolgnfaadoor", sum := "cf2d00da052182dc16b99ff703b679e8e6ba1aa6d43ebc6b6cddacc65092f62a", func := "lodge/lodgelaw14.PlanCopies", spec := "planCopies", unfollowed := true, recurses := true, named := ["lodge/api.ErrMany", "lodge/api.ErrRange", "lodge/api.ErrShape"], apart := false, laid := [("lodge/api.ErrShape", laid_lodge_api_ErrShape), ("lodge/api.ErrRange", laid_lodge_api_ErrRange), ("lodge/api.ErrMany", laid_lodge_api_ErrMany)] }
def PlanCopiesSaid : Prop := planCopiesRow.holds Tryd.pinned (OpenSpec.ofChange planCopiesSpec)

/-- ITS FALSE NEIGHBOUR: 'it returns false'. Refute it at one input. -/
def planCopiesWrong : ChangeSpec := { name := "planCopies", fn := fun _ => fun
  | [d1, d2, d3] => { results := [.lit (.bool false)], args := [d1, d2, d3] }
  | _ => none }
def PlanCopiesWrongFalsely : Prop := planCopiesRow.holds Tryd.pinned (OpenSpec.ofChange planCopiesWrong)

/-- 'lodgelaw17.GraphBounds': WHATEVER THE INPUT: true; the input reads as it did. -/
def graphBoundsSpec : ChangeSpec := { name := "graphBounds", fn := fun _ => fun
  | [d1, d2] => { results := [.lit (.bool true)], args := [d1, d2] }
  | _ => none }
def graphBoundsRow : OpenClaim := { program := "ytfdhkijgolgnfaadoor", sum := "cf2d00da052182dc16b99ff703b679e8e6ba1aa6d43ebc6b6cddacc65092f62a", func := "lodge/lodgelaw17.GraphBounds", spec := "graphBounds", inPlace := ["internal/reflectlite.TypeOf"], unfollowed := true, recurses := true, named := ["lodge/api.ErrMany", "lodge/api.ErrRange", "lodge/api.ErrShape", "lodge/api.ErrKind", "lodge/api.ErrEnd", "lodge/api.ErrRoom", "lodge/api.ErrNone", "lodge/api.ErrAlias", "lodge/api.ErrCost", "lodge/api.ErrJump", "lodge/api.ErrCycle", "lodge/api.ErrFuel", "lodge/api.ErrFull", "lodge/api.ErrQuota", "lodge/api.ErrCap", "lodge/api.ErrStale", "lodge/api.ErrTag", "lodge/api.ErrOld", "lodge/api.ErrTenant", "lodge/api.ErrWord", "lodge/api.ErrNumber"], apart := false, laid := [("lodge/api.ErrShape", laid_lodge_api_ErrShape), ("lodge/api.ErrRange", laid_lodge_api_ErrRange), ("lodge/api.ErrKind", laid_lodge_api_ErrKind), ("lodge/api.ErrMany", laid_lodge_api_ErrMany), ("lodge/api.ErrEnd", laid_lodge_api_ErrEnd), ("lodge/api.ErrRoom", laid_lodge_api_ErrRoom), ("lodge/api.ErrNone", laid_lodge_api_ErrNone), ("lodge/api.ErrAlias", laid_lodge_api_ErrAlias), ("lodge/api.ErrCost", laid_lodge_api_ErrCost), ("lodge/api.ErrJump", laid_lodge_api_ErrJump), ("lodge/api.ErrCycle", laid_lodge_api_ErrCycle), ("lodge/api.ErrFuel", laid_lodge_api_ErrFuel), ("lodge/api.ErrFull", laid_lodge_api_ErrFull), ("lodge/api.ErrQuota", laid_lodge_api_ErrQuota), ("lodge/api.ErrCap", laid_lodge_api_ErrCap), ("lodge/api.ErrStale", laid_lodge_api_ErrStale), ("lodge/api.ErrTag", laid_lodge_api_ErrTag), ("lodge/api.ErrOld", laid_lodge_api_ErrOld), ("lodge/api.ErrTenant", laid_lodge_api_ErrTenant), ("lodge/api.ErrWord", laid_lodge_api_ErrWord), ("lodge/api.ErrNumber", laid_lodge_api_ErrNumber)] }
def GraphBoundsSaid : Prop := graphBoundsRow.holds Tryd.pinned (OpenSpec.ofChange graphBoundsSpec)

/-- ITS FALSE NEIGHBOUR: 'it returns false'. Refute it at one input. -/
def graphBoundsWrong : ChangeSpec := { name := "graphBounds", fn := fun _ => fun
  | [d1, d2] => { results := [.lit (.bool false)], args := [d1, d2] }
  | _ => none }
def GraphBoundsWrongFalsely : Prop := graphBoundsRow.holds Tryd.pinned (OpenSpec.ofChange graphBoundsWrong)

/-- 'lodgelaw17.GraphBack': WHATEVER THE INPUT: true; the input reads as it did. -/
def graphBackSpec : ChangeSpec := { name := "graphBack", fn := fun _ => fun
  | [d1, d2, d3] => { results := [.lit (.bool true)], args := [d1, d2, d3] }
  | _ => none }
def graphBackRow : OpenClaim := { program := "ytfdhkijgolgnfaadoor", sum := "cf2d00da052182dc16b99ff703b679e8e6ba1aa6d43ebc6b6cddacc65092f62a", func := "lodge/lodgelaw17.GraphBack", spec := "graphBack", inPlace := ["internal/reflectlite.TypeOf"], unfollowed := true, recurses := true, named := ["lodge/api.ErrMany", "lodge/api.ErrRange", "lodge/api.ErrShape", "lodge/api.ErrEnd", "lodge/api.ErrKind", "lodge/api.ErrRoom", "lodge/api.ErrNone", "lodge/api.ErrAlias", "lodge/api.ErrCost", "lodge/api.ErrJump", "lodge/api.ErrCycle", "lodge/api.ErrFuel", "lodge/api.ErrFull", "lodge/api.ErrQuota", "lodge/api.ErrCap", "lodge/api.ErrStale", "lodge/api.ErrTag", "lodge/api.ErrOld", "lodge/api.ErrTenant", "lodge/api.ErrWord", "lodge/api.ErrNumber"], apart := false, laid := [("lodge/api.ErrShape", laid_lodge_api_ErrShape), ("lodge/api.ErrRange", laid_lodge_api_ErrRange), ("lodge/api.ErrKind", laid_lodge_api_ErrKind), ("lodge/api.ErrMany", laid_lodge_api_ErrMany), ("lodge/api.ErrEnd", laid_lodge_api_ErrEnd), ("lodge/api.ErrRoom", laid_lodge_api_ErrRoom), ("lodge/api.ErrNone", laid_lodge_api_ErrNone), ("lodge/api.ErrAlias", laid_lodge_api_ErrAlias), ("lodge/api.ErrCost", laid_lodge_api_ErrCost), ("lodge/api.ErrJump", laid_lodge_api_ErrJump), ("lodge/api.ErrCycle", laid_lodge_api_ErrCycle), ("lodge/api.ErrFuel", laid_lodge_api_ErrFuel), ("lodge/api.ErrFull", laid_lodge_api_ErrFull), ("lodge/api.ErrQuota", laid_lodge_api_ErrQuota), ("lodge/api.ErrCap", laid_lodge_api_ErrCap), ("lodge/api.ErrStale", laid_lodge_api_ErrStale), ("lodge/api.ErrTag", laid_lodge_api_ErrTag), ("lodge/api.ErrOld", laid_lodge_api_ErrOld), ("lodge/api.ErrTenant", laid_lodge_api_ErrTenant), ("lodge/api.ErrWord", laid_lodge_api_ErrWord), ("lodge/api.ErrNumber", laid_lodge_api_ErrNumber)] }
def GraphBackSaid : Prop := graphBackRow.holds Tryd.pinned (OpenSpec.ofChange graphBackSpec)

/-- ITS FALSE NEIGHBOUR: 'it returns false'. Refute it at one input. -/
def graphBackWrong : ChangeSpec := { name := "graphBack", fn := fun _ => fun
  | [d1, d2, d3] => { results := [.lit (.bool false)], args := [d1, d2, d3] }
  | _ => none }
def GraphBackWrongFalsely : Prop := graphBackRow.holds Tryd.pinned (OpenSpec.ofChange graphBackWrong)

/-- 'lodgelaw14.PlanAgain': WHATEVER THE INPUT: true; the input reads as it did. -/
def planAgainSpec : ChangeSpec := { name := "planAgain", fn := fun _ => fun
  | [d] => { results := [.lit (.bool true)], args := [d] }
  | _ => none }
def planAgainRow : OpenClaim := { program := "ytfdhkijgolgnfaadoor", sum := "cf2d00da052182dc16b99ff703b679e8e6ba1aa6d43ebc6b6cddacc65092f62a", func := "lodge/lodgelaw14.PlanAgain", spec := "planAgain", inPlace := ["internal/reflectlite.TypeOf"], unfollowed := true, recurses := true, named := ["lodge/api.ErrMany", "lodge/api.ErrRange", "lodge/api.ErrShape", "lodge/api.ErrEnd", "lodge/api.ErrKind"], apart := false, laid := [("lodge/api.ErrShape", laid_lodge_api_ErrShape), ("lodge/api.ErrRange", laid_lodge_api_ErrRange), ("lodge/api.ErrKind", laid_lodge_api_ErrKind), ("lodge/api.ErrMany", laid_lodge_api_ErrMany), ("lodge/api.ErrEnd", laid_lodge_api_ErrEnd)] }
def PlanAgainSaid : Prop := planAgainRow.holds Tryd.pinned (OpenSpec.ofChange planAgainSpec)

/-- ITS FALSE NEIGHBOUR: 'it returns false'. Refute it at one input. -/
def planAgainWrong : ChangeSpec := { name := "planAgain", fn := fun _ => fun
  | [d] => { results := [.lit (.bool false)], args := [d] }
  | _ => none }
def PlanAgainWrongFalsely : Prop := planAgainRow.holds Tryd.pinned (OpenSpec.ofChange planAgainWrong)

/-- 'lodgelaw14.PlanBounds': WHATEVER THE INPUT: true; the input reads as it did. -/
def planBoundsSpec : ChangeSpec := { name := "planBounds", fn := fun _ => fun
  | [d1, d2] => { results := [.lit (.bool true)], args := [d1, d2] }
  | _ => none }
def planBoundsRow : OpenClaim := { program := "ytfdhkijgolgnfaadoor", sum := "cf2d00da052182dc16b99ff703b679e8e6ba1aa6d43ebc6b6cddacc65092f62a", func := "lodge/lodgelaw14.PlanBounds", spec := "planBounds", inPlace := ["internal/reflectlite.TypeOf"], unfollowed := true, recurses := true, named := ["lodge/api.ErrMany", "lodge/api.ErrRange", "lodge/api.ErrShape", "lodge/api.ErrKind", "lodge/api.ErrEnd", "lodge/api.ErrRoom", "lodge/api.ErrNone", "lodge/api.ErrAlias", "lodge/api.ErrCost", "lodge/api.ErrJump", "lodge/api.ErrCycle", "lodge/api.ErrFuel", "lodge/api.ErrFull", "lodge/api.ErrQuota", "lodge/api.ErrCap", "lodge/api.ErrStale", "lodge/api.ErrTag", "lodge/api.ErrOld", "lodge/api.ErrTenant", "lodge/api.ErrWord", "lodge/api.ErrNumber"], apart := false, laid := [("lodge/api.ErrShape", laid_lodge_api_ErrShape), ("lodge/api.ErrRange", laid_lodge_api_ErrRange), ("lodge/api.ErrKind", laid_lodge_api_ErrKind), ("lodge/api.ErrMany", laid_lodge_api_ErrMany), ("lodge/api.ErrEnd", laid_lodge_api_ErrEnd), ("lodge/api.ErrRoom", laid_lodge_api_ErrRoom), ("lodge/api.ErrNone", laid_lodge_api_ErrNone), ("lodge/api.ErrAlias", laid_lodge_api_ErrAlias), ("lodge/api.ErrCost", laid_lodge_api_ErrCost), ("lodge/api.ErrJump", laid_lodge_api_ErrJump), ("lodge/api.ErrCycle", laid_lodge_api_ErrCycle), ("lodge/api.ErrFuel", laid_lodge_api_ErrFuel), ("lodge/api.ErrFull", laid_lodge_api_ErrFull), ("lodge/api.ErrQuota", laid_lodge_api_ErrQuota), ("lodge/api.ErrCap", laid_lodge_api_ErrCap), ("lodge/api.ErrStale", laid_lodge_api_ErrStale), ("lodge/api.ErrTag", laid_lodge_api_ErrTag), ("lodge/api.ErrOld", laid_lodge_api_ErrOld), ("lodge/api.ErrTenant", laid_lodge_api_ErrTenant), ("lodge/api.ErrWord", laid_lodge_api_ErrWord), ("lodge/api.ErrNumber", laid_lodge_api_ErrNumber)] }
def PlanBoundsSaid : Prop := planBoundsRow.holds Tryd.pinned (OpenSpec.ofChange planBoundsSpec)

/-- ITS FALSE NEIGHBOUR: 'it returns false'. Refute it at one input. -/
def planBoundsWrong : ChangeSpec := { name := "planBounds", fn := fun _ => fun
  | [d1, d2] => { results := [.lit (.bool false)], args := [d1, d2] }
  | _ => none }
def PlanBoundsWrongFalsely : Prop := planBoundsRow.holds Tryd.pinned (OpenSpec.ofChange planBoundsWrong)

/-- 'lodgelaw14.PlanNumbers': WHATEVER THE INPUT: true; the input reads as it did. -/
def planNumbersSpec : ChangeSpec := { name := "planNumbers", fn := fun _ => fun
  | [d1, d2] => { results := [.lit (.bool true)], args := [d1, d2] }
  | _ => none }
def planNumbersRow : OpenClaim := { program := "ytfdhkijgolgnfaadoor", sum := "cf2d00da052182dc16b99ff703b679e8e6ba1aa6d43ebc6b6cddacc65092f62a", func := "lodge/lodgelaw14.PlanNumbers", spec := "planNumbers", inPlace := ["internal/reflectlite.TypeOf"], unfollowed := true, recurses := true, named := ["lodge/api.ErrMany", "lodge/api.ErrRange", "lodge/api.ErrShape", "lodge/api.ErrKind", "lodge/api.ErrEnd", "lodge/api.ErrRoom", "lodge/api.ErrNone", "lodge/api.ErrAlias", "lodge/api.ErrCost", "lodge/api.ErrJump", "lodge/api.ErrCycle", "lodge/api.ErrFuel", "lodge/api.ErrFull", "lodge/api.ErrQuota", "lodge/api.ErrCap", "lodge/api.ErrStale", "lodge/api.ErrTag", "lodge/api.ErrOld", "lodge/api.ErrTenant", "lodge/api.ErrWord", "lodge/api.ErrNumber"], apart := false, laid := [("lodge/api.ErrShape", laid_lodge_api_ErrShape), ("lodge/api.ErrRange", laid_lodge_api_ErrRange), ("lodge/api.ErrKind", laid_lodge_api_ErrKind), ("lodge/api.ErrMany", laid_lodge_api_ErrMany), ("lodge/api.ErrEnd", laid_lodge_api_ErrEnd), ("lodge/api.ErrRoom", laid_lodge_api_ErrRoom), ("lodge/api.ErrNone", laid_lodge_api_ErrNone), ("lodge/api.ErrAlias", laid_lodge_api_ErrAlias), ("lodge/api.ErrCost", laid_lodge_api_ErrCost), ("lodge/api.ErrJump", laid_lodge_api_ErrJump), ("lodge/api.ErrCycle", laid_lodge_api_ErrCycle), ("lodge/api.ErrFuel", laid_lodge_api_ErrFuel), ("lodge/api.ErrFull", laid_lodge_api_ErrFull), ("lodge/api.ErrQuota", laid_lodge_api_ErrQuota), ("lodge/api.ErrCap", laid_lodge_api_ErrCap), ("lodge/api.ErrStale", laid_lodge_api_ErrStale), ("lodge/api.ErrTag", laid_lodge_api_ErrTag), ("lodge/api.ErrOld", laid_lodge_api_ErrOld), ("lodge/api.ErrTenant", laid_lodge_api_ErrTenant), ("lodge/api.ErrWord", laid_lodge_api_ErrWord), ("lodge/api.ErrNumber", laid_lodge_api_ErrNumber)] }
def PlanNumbersSaid : Prop := planNumbersRow.holds Tryd.pinned (OpenSpec.ofChange planNumbersSpec)

/-- ITS FALSE NEIGHBOUR: 'it returns false'. Refute it at one input. -/
def planNumbersWrong : ChangeSpec := { name := "planNumbers", fn := fun _ => fun
  | [d1, d2] => { results := [.lit (.bool false)], args := [d1, d2] }
  | _ => none }
def PlanNumbersWrongFalsely : Prop := planNumbersRow.holds Tryd.pinned (OpenSpec.ofChange planNumbersWrong)

/-- 'lodgelaw18.OrderWeights': WHATEVER THE INPUT: true; the input reads as it did. -/
def orderWeightsSpec : ChangeSpec := { name := "orderWeights", fn := fun _ => fun
  | [d1, d2, d3] => { results := [.lit (.bool true)], args := [d1, d2, d3] }
  | _ => none }
def orderWeightsRow : OpenClaim := { program := "ytfdhkijgolgnfaadoor", sum := "cf2d00da052182dc16b99ff703b679e8e6ba1aa6d43ebc6b6cddacc65092f62a", func := "lodge/lodgelaw18.OrderWeights", spec := "orderWeights", inPlace := ["internal/reflectlite.ValueOf", "(internal/reflectlite.Value).Type", "(internal/reflectlite.Value).IsNil", "internal/reflectlite.TypeOf", "(internal/reflectlite.Value).Elem", "(internal/reflectlite.Value).Set"], unfollowed := true, recurses := true, named := ["lodge/api.ErrNone", "lodge/api.ErrCycle", "lodge/api.ErrShape", "lodge/api.ErrRange", "lodge/api.ErrKind", "lodge/api.ErrMany", "lodge/api.ErrEnd", "lodge/api.ErrRoom", "lodge/api.ErrAlias", "lodge/api.ErrCost", "lodge/api.ErrJump", "lodge/api.ErrFuel", "lodge/api.ErrFull", "lodge/api.ErrQuota", "lodge/api.ErrCap", "lodge/api.ErrStale", "lodge/api.ErrTag", "lodge/api.ErrOld", "lodge/api.ErrTenant", "lodge/api.ErrWord", "lodge/api.ErrNumber", "errors.errorType"], apart := false, laid := [("errors.errorType", laid_errors_errorType), ("lodge/api.ErrShape", laid_lodge_api_ErrShape), ("lodge/api.ErrRange", laid_lodge_api_ErrRange), ("lodge/api.ErrKind", laid_lodge_api_ErrKind), ("lodge/api.ErrMany", laid_lodge_api_ErrMany), ("lodge/api.ErrEnd", laid_lodge_api_ErrEnd), ("lodge/api.ErrRoom", laid_lodge_api_ErrRoom), ("lodge/api.ErrNone", laid_lodge_api_ErrNone), ("lodge/api.ErrAlias", laid_lodge_api_ErrAlias), ("lodge/api.ErrCost", laid_lodge_api_ErrCost), ("lodge/api.ErrJump", laid_lodge_api_ErrJump), ("lodge/api.ErrCycle", laid_lodge_api_ErrCycle), ("lodge/api.ErrFuel", laid_lodge_api_ErrFuel), ("lodge/api.ErrFull", laid_lodge_api_ErrFull), ("lodge/api.ErrQuota", laid_lodge_api_ErrQuota), ("lodge/api.ErrCap", laid_lodge_api_ErrCap), ("lodge/api.ErrStale", laid_lodge_api_ErrStale), ("lodge/api.ErrTag", laid_lodge_api_ErrTag), ("lodge/api.ErrOld", laid_lodge_api_ErrOld), ("lodge/api.ErrTenant", laid_lodge_api_ErrTenant), ("lodge/api.ErrWord", laid_lodge_api_ErrWord), ("lodge/api.ErrNumber", laid_lodge_api_ErrNumber)] }
def OrderWeightsSaid : Prop := orderWeightsRow.holds Tryd.pinned (OpenSpec.ofChange orderWeightsSpec)

/-- ITS FALSE NEIGHBOUR: 'it returns false'. Refute it at one input. -/
def orderWeightsWrong : ChangeSpec := { name := "orderWeights", fn := fun _ => fun
  | [d1, d2, d3] => { results := [.lit (.bool false)], args := [d1, d2, d3] }
  | _ => none }
def OrderWeightsWrongFalsely : Prop := orderWeightsRow.holds Tryd.pinned (OpenSpec.ofChange orderWeightsWrong)

/- THE SECOND FORM. 'bulk': how many values and letters a reading holds, each counted each time it is reached (what is shared counts as often as it is met; a slice's spare places count too). A statement '..UptoSaid' is the law's where the arguments, and the package variables that the reading takes, are together of bulk at most 1048576: NARROWER than '..Said'. Prove '..Said' where nothing that the law and all that it calls make is longer than what came in: it says more and counts as full. Else prove '..UptoSaid'. A law counts once. -/
mutual
def uptoBulk {H : Type} : DataW H → Nat
  | .lit (.string bytes) => bytes.length + 1
  | .lit _ => 1
  | .nil => 1
  | .ptr d => uptoBulk d + 1
  | .slice elems spare => uptoBulkAll elems + uptoBulkAll spare + 1
  | .agg parts => uptoBulkAll parts + 1
  | .iface _ d => uptoBulk d + 1
  | .map entries => uptoBulkEntries entries + 1
  | .held _ => 1
def uptoBulkAll {H : Type} : List (DataW H) → Nat
  | [] => 0
  | d :: r => uptoBulk d + uptoBulkAll r
def uptoBulkEntries {H : Type} : List (Lit × DataW H) → Nat
  | [] => 0
  | x :: r => uptoBulkEntry x + uptoBulkEntries r
def uptoBulkEntry {H : Type} : Lit × DataW H → Nat
  | (.string bytes, d) => bytes.length + uptoBulk d + 1
  | (_, d) => uptoBulk d + 1
 end
def uptoSmall : (H : Type) → List (DataW H) → Bool := fun _ ds => decide (uptoBulkAll ds ≤ 1048576)
def OpenSpec.upto (s : _root_.Go.ChangeSpec) : _root_.Go.OpenSpec := { _root_.Go.OpenSpec.ofChange s with cond := some uptoSmall }

/-- 'lodgelaw18.OrderSorts', WHERE WHAT IT READS IS OF BULK AT MOST 1048576: true; the input reads as it did. -/
def orderSortsUptoRow : OpenClaim := { program := "ytfdhkijgolgnfaadoor", sum := "cf2d00da052182dc16b99ff703b679e8e6ba1aa6d43ebc6b6cddacc65092f62a", func := "lodge/lodgelaw18.OrderSorts", spec := "orderSorts", named := ["lodge/api.ErrNone", "lodge/api.ErrCycle", "lodge/api.ErrShape", "lodge/api.ErrRange", "lodge/api.ErrKind", "lodge/api.ErrMany", "lodge/api.ErrEnd", "lodge/api.ErrRoom", "lodge/api.ErrAlias", "lodge/api.ErrCost", "lodge/api.ErrJump", "lodge/api.ErrFuel", "lodge/api.ErrFull", "lodge/api.ErrQuota", "lodge/api.ErrCap", "lodge/api.ErrStale", "lodge/api.ErrTag", "lodge/api.ErrOld", "lodge/api.ErrTenant", "lodge/api.ErrWord", "lodge/api.ErrNumber"], apart := false, laid := [("lodge/api.ErrShape", laid_lodge_api_ErrShape), ("lodge/api.ErrRange", laid_lodge_api_ErrRange), ("lodge/api.ErrKind", laid_lodge_api_ErrKind), ("lodge/api.ErrMany", laid_lodge_api_ErrMany), ("lodge/api.ErrEnd", laid_lodge_api_ErrEnd), ("lodge/api.ErrRoom", laid_lodge_api_ErrRoom), ("lodge/api.ErrNone", laid_lodge_api_ErrNone), ("lodge/api.ErrAlias", laid_lodge_api_ErrAlias), ("lodge/api.ErrCost", laid_lodge_api_ErrCost), ("lodge/api.ErrJump", laid_lodge_api_ErrJump), ("lodge/api.ErrCycle", laid_lodge_api_ErrCycle), ("lodge/api.ErrFuel", laid_lodge_api_ErrFuel), ("lodge/api.ErrFull", laid_lodge_api_ErrFull), ("lodge/api.ErrQuota", laid_lodge_api_ErrQuota), ("lodge/api.ErrCap", laid_lodge_api_ErrCap), ("lodge/api.ErrStale", laid_lodge_api_ErrStale), ("lodge/api.ErrTag", laid_lodge_api_ErrTag), ("lodge/api.ErrOld", laid_lodge_api_ErrOld), ("lodge/api.ErrTenant", laid_lodge_api_ErrTenant), ("lodge/api.ErrWord", laid_lodge_api_ErrWord), ("lodge/api.ErrNumber", laid_lodge_api_ErrNumber)], narrowed := true }
def OrderSortsUptoSaid : Prop := orderSortsUptoRow.holds Tryd.pinned (OpenSpec.upto orderSortsSpec)

/-- 'lodgelaw18.OrderRows', WHERE WHAT IT READS IS OF BULK AT MOST 1048576: true; the input reads as it did. -/
def orderRowsUptoRow : OpenClaim := { program := "ytfdhkijgolgnfaadoor", sum := "cf2d00da052182dc16b99ff703b679e8e6ba1aa6d43ebc6b6cddacc65092f62a", func := "lodge/lodgelaw18.OrderRows", spec := "orderRows", named := ["lodge/api.ErrNone", "lodge/api.ErrCycle", "lodge/api.ErrShape", "lodge/api.ErrRange", "lodge/api.ErrKind", "lodge/api.ErrMany", "lodge/api.ErrEnd", "lodge/api.ErrRoom", "lodge/api.ErrAlias", "lodge/api.ErrCost", "lodge/api.ErrJump", "lodge/api.ErrFuel", "lodge/api.ErrFull", "lodge/api.ErrQuota", "lodge/api.ErrCap", "lodge/api.ErrStale", "lodge/api.ErrTag", "lodge/api.ErrOld", "lodge/api.ErrTenant", "lodge/api.ErrWord", "lodge/api.ErrNumber"], apart := false, laid := [("lodge/api.ErrShape", laid_lodge_api_ErrShape), ("lodge/api.ErrRange", laid_lodge_api_ErrRange), ("lodge/api.ErrKind", laid_lodge_api_ErrKind), ("lodge/api.ErrMany", laid_lodge_api_ErrMany), ("lodge/api.ErrEnd", laid_lodge_api_ErrEnd), ("lodge/api.ErrRoom", laid_lodge_api_ErrRoom), ("lodge/api.ErrNone", laid_lodge_api_ErrNone), ("lodge/api.ErrAlias", laid_lodge_api_ErrAlias), ("lodge/api.ErrCost", laid_lodge_api_ErrCost), ("lodge/api.ErrJump", laid_lodge_api_ErrJump), ("lodge/api.ErrCycle", laid_lodge_api_ErrCycle), ("lodge/api.ErrFuel", laid_lodge_api_ErrFuel), ("lodge/api.ErrFull", laid_lodge_api_ErrFull), ("lodge/api.ErrQuota", laid_lodge_api_ErrQuota), ("lodge/api.ErrCap", laid_lodge_api_ErrCap), ("lodge/api.ErrStale", laid_lodge_api_ErrStale), ("lodge/api.ErrTag", laid_lodge_api_ErrTag), ("lodge/api.ErrOld", laid_lodge_api_ErrOld), ("lodge/api.ErrTenant", laid_lodge_api_ErrTenant), ("lodge/api.ErrWord", laid_lodge_api_ErrWord), ("lodge/api.ErrNumber", laid_lodge_api_ErrNumber)], narrowed := true }
def OrderRowsUptoSaid : Prop := orderRowsUptoRow.holds Tryd.pinned (OpenSpec.upto orderRowsSpec)

/-- 'lodgelaw17.GraphBytes', WHERE WHAT IT READS IS OF BULK AT MOST 1048576: true; the input reads as it did. -/
def graphBytesUptoRow : OpenClaim := { program := "ytfdhkijgolgnfaadoor", sum := "cf2d00da052182dc16b99ff703b679e8e6ba1aa6d43ebc6b6cddacc65092f62a", func := "lodge/lodgelaw17.GraphBytes", spec := "graphBytes", unfollowed := true, recurses := true, named := ["lodge/api.ErrMany", "lodge/api.ErrRange", "lodge/api.ErrShape", "lodge/api.ErrKind", "lodge/api.ErrEnd", "lodge/api.ErrRoom", "lodge/api.ErrNone", "lodge/api.ErrAlias", "lodge/api.ErrCost", "lodge/api.ErrJump", "lodge/api.ErrCycle", "lodge/api.ErrFuel", "lodge/api.ErrFull", "lodge/api.ErrQuota", "lodge/api.ErrCap", "lodge/api.ErrStale", "lodge/api.ErrTag", "lodge/api.ErrOld", "lodge/api.ErrTenant", "lodge/api.ErrWord", "lodge/api.ErrNumber"], apart := false, laid := [("lodge/api.ErrShape", laid_lodge_api_ErrShape), ("lodge/api.ErrRange", laid_lodge_api_ErrRange), ("lodge/api.ErrKind", laid_lodge_api_ErrKind), ("lodge/api.ErrMany", laid_lodge_api_ErrMany), ("lodge/api.ErrEnd", laid_lodge_api_ErrEnd), ("lodge/api.ErrRoom", laid_lodge_api_ErrRoom), ("lodge/api.ErrNone", laid_lodge_api_ErrNone), ("lodge/api.ErrAlias", laid_lodge_api_ErrAlias), ("lodge/api.ErrCost", laid_lodge_api_ErrCost), ("lodge/api.ErrJump", laid_lodge_api_ErrJump), ("lodge/api.ErrCycle", laid_lodge_api_ErrCycle), ("lodge/api.ErrFuel", laid_lodge_api_ErrFuel), ("lodge/api.ErrFull", laid_lodge_api_ErrFull), ("lodge/api.ErrQuota", laid_lodge_api_ErrQuota), ("lodge/api.ErrCap", laid_lodge_api_ErrCap), ("lodge/api.ErrStale", laid_lodge_api_ErrStale), ("lodge/api.ErrTag", laid_lodge_api_ErrTag), ("lodge/api.ErrOld", laid_lodge_api_ErrOld), ("lodge/api.ErrTenant", laid_lodge_api_ErrTenant), ("lodge/api.ErrWord", laid_lodge_api_ErrWord), ("lodge/api.ErrNumber", laid_lodge_api_ErrNumber)], narrowed := true }
def GraphBytesUptoSaid : Prop := graphBytesUptoRow.holds Tryd.pinned (OpenSpec.upto graphBytesSpec)

/-- 'lodgelaw17.GraphUses', WHERE WHAT IT READS IS OF BULK AT MOST 1048576: true; the input reads as it did. -/
def graphUsesUptoRow : OpenClaim := { program := "ytfdhkijgolgnfaadoor", sum := "cf2d00da052182dc16b99ff703b679e8e6ba1aa6d43ebc6b6cddacc65092f62a", func := "lodge/lodgelaw17.GraphUses", spec := "graphUses", unfollowed := true, recurses := true, named := ["lodge/api.ErrMany", "lodge/api.ErrRange", "lodge/api.ErrShape"], apart := false, laid := [("lodge/api.ErrShape", laid_lodge_api_ErrShape), ("lodge/api.ErrRange", laid_lodge_api_ErrRange), ("lodge/api.ErrMany", laid_lodge_api_ErrMany)], narrowed := true }
def GraphUsesUptoSaid : Prop := graphUsesUptoRow.holds Tryd.pinned (OpenSpec.upto graphUsesSpec)

/-- 'lodgelaw14.PlanCopies', WHERE WHAT IT READS IS OF BULK AT MOST 1048576: true; the input reads as it did. -/
def planCopiesUptoRow : OpenClaim := { program := "ytfdhkijgolgnfaadoor", sum := "cf2d00da052182dc16b99ff703b679e8e6ba1aa6d43ebc6b6cddacc65092f62a", func := "lodge/lodgelaw14.PlanCopies", spec := "planCopies", unfollowed := true, recurses := true, named := ["lodge/api.ErrMany", "lodge/api.ErrRange", "lodge/api.ErrShape"], apart := false, laid := [("lodge/api.ErrShape", laid_lodge_api_ErrShape), ("lodge/api.ErrRange", laid_lodge_api_ErrRange), ("lodge/api.ErrMany", laid_lodge_api_ErrMany)], narrowed := true }
def PlanCopiesUptoSaid : Prop := planCopiesUptoRow.holds Tryd.pinned (OpenSpec.upto planCopiesSpec)

/-- 'lodgelaw17.GraphBounds', WHERE WHAT IT READS IS OF BULK AT MOST 1048576: true; the input reads as it did. -/
def graphBoundsUptoRow : OpenClaim := { program := "ytfdhkijgolgnfaadoor", sum := "cf2d00da052182dc16b99ff703b679e8e6ba1aa6d43ebc6b6cddacc65092f62a", func := "lodge/lodgelaw17.GraphBounds", spec := "graphBounds", inPlace := ["internal/reflectlite.TypeOf"], unfollowed := true, recurses := true, named := ["lodge/api.ErrMany", "lodge/api.ErrRange", "lodge/api.ErrShape", "lodge/api.ErrKind", "lodge/api.ErrEnd", "lodge/api.ErrRoom", "lodge/api.ErrNone", "lodge/api.ErrAlias", "lodge/api.ErrCost", "lodge/api.ErrJump", "lodge/api.ErrCycle", "lodge/api.ErrFuel", "lodge/api.ErrFull", "lodge/api.ErrQuota", "lodge/api.ErrCap", "lodge/api.ErrStale", "lodge/api.ErrTag", "lodge/api.ErrOld", "lodge/api.ErrTenant", "lodge/api.ErrWord", "lodge/api.ErrNumber"], apart := false, laid := [("lodge/api.ErrShape", laid_lodge_api_ErrShape), ("lodge/api.ErrRange", laid_lodge_api_ErrRange), ("lodge/api.ErrKind", laid_lodge_api_ErrKind), ("lodge/api.ErrMany", laid_lodge_api_ErrMany), ("lodge/api.ErrEnd", laid_lodge_api_ErrEnd), ("lodge/api.ErrRoom", laid_lodge_api_ErrRoom), ("lodge/api.ErrNone", laid_lodge_api_ErrNone), ("lodge/api.ErrAlias", laid_lodge_api_ErrAlias), ("lodge/api.ErrCost", laid_lodge_api_ErrCost), ("lodge/api.ErrJump", laid_lodge_api_ErrJump), ("lodge/api.ErrCycle", laid_lodge_api_ErrCycle), ("lodge/api.ErrFuel", laid_lodge_api_ErrFuel), ("lodge/api.ErrFull", laid_lodge_api_ErrFull), ("lodge/api.ErrQuota", laid_lodge_api_ErrQuota), ("lodge/api.ErrCap", laid_lodge_api_ErrCap), ("lodge/api.ErrStale", laid_lodge_api_ErrStale), ("lodge/api.ErrTag", laid_lodge_api_ErrTag), ("lodge/api.ErrOld", laid_lodge_api_ErrOld), ("lodge/api.ErrTenant", laid_lodge_api_ErrTenant), ("lodge/api.ErrWord", laid_lodge_api_ErrWord), ("lodge/api.ErrNumber", laid_lodge_api_ErrNumber)], narrowed := true }
def GraphBoundsUptoSaid : Prop := graphBoundsUptoRow.holds Tryd.pinned (OpenSpec.upto graphBoundsSpec)

/-- 'lodgelaw17.GraphBack', WHERE WHAT IT READS IS OF BULK AT MOST 1048576: true; the input reads as it did. -/
def graphBackUptoRow : OpenClaim := { program := "ytfdhkijgolgnfaadoor", sum := "cf2d00da052182dc16b99ff703b679e8e6ba1aa6d43ebc6b6cddacc65092f62a", func := "lodge/lodgelaw17.GraphBack", spec := "graphBack", inPlace := ["internal/reflectlite.TypeOf"], unfollowed := true, recurses := true, named := ["lodge/api.ErrMany", "lodge/api.ErrRange", "lodge/api.ErrShape", "lodge/api.ErrEnd", "lodge/api.ErrKind", "lodge/api.ErrRoom", "lodge/api.ErrNone", "lodge/api.ErrAlias", "lodge/api.ErrCost", "lodge/api.ErrJump", "lodge/api.ErrCycle", "lodge/api.ErrFuel", "lodge/api.ErrFull", "lodge/api.ErrQuota", "lodge/api.ErrCap", "lodge/api.ErrStale", "lodge/api.ErrTag", "lodge/api.ErrOld", "lodge/api.ErrTenant", "lodge/api.ErrWord", "lodge/api.ErrNumber"], apart := false, laid := [("lodge/api.ErrShape", laid_lodge_api_ErrShape), ("lodge/api.ErrRange", laid_lodge_api_ErrRange), ("lodge/api.ErrKind", laid_lodge_api_ErrKind), ("lodge/api.ErrMany", laid_lodge_api_ErrMany), ("lodge/api.ErrEnd", laid_lodge_api_ErrEnd), ("lodge/api.ErrRoom", laid_lodge_api_ErrRoom), ("lodge/api.ErrNone", laid_lodge_api_ErrNone), ("lodge/api.ErrAlias", laid_lodge_api_ErrAlias), ("lodge/api.ErrCost", laid_lodge_api_ErrCost), ("lodge/api.ErrJump", laid_lodge_api_ErrJump), ("lodge/api.ErrCycle", laid_lodge_api_ErrCycle), ("lodge/api.ErrFuel", laid_lodge_api_ErrFuel), ("lodge/api.ErrFull", laid_lodge_api_ErrFull), ("lodge/api.ErrQuota", laid_lodge_api_ErrQuota), ("lodge/api.ErrCap", laid_lodge_api_ErrCap), ("lodge/api.ErrStale", laid_lodge_api_ErrStale), ("lodge/api.ErrTag", laid_lodge_api_ErrTag), ("lodge/api.ErrOld", laid_lodge_api_ErrOld), ("lodge/api.ErrTenant", laid_lodge_api_ErrTenant), ("lodge/api.ErrWord", laid_lodge_api_ErrWord), ("lodge/api.ErrNumber", laid_lodge_api_ErrNumber)], narrowed := true }
def GraphBackUptoSaid : Prop := graphBackUptoRow.holds Tryd.pinned (OpenSpec.upto graphBackSpec)

/-- 'lodgelaw14.PlanAgain', WHERE WHAT IT READS IS OF BULK AT MOST 1048576: true; the input reads as it did. -/
def planAgainUptoRow : OpenClaim := { program := "ytfdhkijgolgnfaadoor", sum := "cf2d00da052182dc16b99ff703b679e8e6ba1aa6d43ebc6b6cddacc65092f62a", func := "lodge/lodgelaw14.PlanAgain", spec := "planAgain", inPlace := ["internal/reflectlite.TypeOf"], unfollowed := true, recurses := true, named := ["lodge/api.ErrMany", "lodge/api.ErrRange", "lodge/api.ErrShape", "lodge/api.ErrEnd", "lodge/api.ErrKind"], apart := false, laid := [("lodge/api.ErrShape", laid_lodge_api_ErrShape), ("lodge/api.ErrRange", laid_lodge_api_ErrRange), ("lodge/api.ErrKind", laid_lodge_api_ErrKind), ("lodge/api.ErrMany", laid_lodge_api_ErrMany), ("lodge/api.ErrEnd", laid_lodge_api_ErrEnd)], narrowed := true }
def PlanAgainUptoSaid : Prop := planAgainUptoRow.holds Tryd.pinned (OpenSpec.upto planAgainSpec)

/-- 'lodgelaw14.PlanBounds', WHERE WHAT IT READS IS OF BULK AT MOST 1048576: true; the input reads as it did. -/
def planBoundsUptoRow : OpenClaim := { program := "ytfdhkijgolgnfaadoor", sum := "cf2d00da052182dc16b99ff703b679e8e6ba1aa6d43ebc6b6cddacc65092f62a", func := "lodge/lodgelaw14.PlanBounds", spec := "planBounds", inPlace := ["internal/reflectlite.TypeOf"], unfollowed := true, recurses := true, named := ["lodge/api.ErrMany", "lodge/api.ErrRange", "lodge/api.ErrShape", "lodge/api.ErrKind", "lodge/api.ErrEnd", "lodge/api.ErrRoom", "lodge/api.ErrNone", "lodge/api.ErrAlias", "lodge/api.ErrCost", "lodge/api.ErrJump", "lodge/api.ErrCycle", "lodge/api.ErrFuel", "lodge/api.ErrFull", "lodge/api.ErrQuota", "lodge/api.ErrCap", "lodge/api.ErrStale", "lodge/api.ErrTag", "lodge/api.ErrOld", "lodge/api.ErrTenant", "lodge/api.ErrWord", "lodge/api.ErrNumber"], apart := false, laid := [("lodge/api.ErrShape", laid_lodge_api_ErrShape), ("lodge/api.ErrRange", laid_lodge_api_ErrRange), ("lodge/api.ErrKind", laid_lodge_api_ErrKind), ("lodge/api.ErrMany", laid_lodge_api_ErrMany), ("lodge/api.ErrEnd", laid_lodge_api_ErrEnd), ("lodge/api.ErrRoom", laid_lodge_api_ErrRoom), ("lodge/api.ErrNone", laid_lodge_api_ErrNone), ("lodge/api.ErrAlias", laid_lodge_api_ErrAlias), ("lodge/api.ErrCost", laid_lodge_api_ErrCost), ("lodge/api.ErrJump", laid_lodge_api_ErrJump), ("lodge/api.ErrCycle", laid_lodge_api_ErrCycle), ("lodge/api.ErrFuel", laid_lodge_api_ErrFuel), ("lodge/api.ErrFull", laid_lodge_api_ErrFull), ("lodge/api.ErrQuota", laid_lodge_api_ErrQuota), ("lodge/api.ErrCap", laid_lodge_api_ErrCap), ("lodge/api.ErrStale", laid_lodge_api_ErrStale), ("lodge/api.ErrTag", laid_lodge_api_ErrTag), ("lodge/api.ErrOld", laid_lodge_api_ErrOld), ("lodge/api.ErrTenant", laid_lodge_api_ErrTenant), ("lodge/api.ErrWord", laid_lodge_api_ErrWord), ("lodge/api.ErrNumber", laid_lodge_api_ErrNumber)], narrowed := true }
def PlanBoundsUptoSaid : Prop := planBoundsUptoRow.holds Tryd.pinned (OpenSpec.upto planBoundsSpec)

/-- 'lodgelaw14.PlanNumbers', WHERE WHAT IT READS IS OF BULK AT MOST 1048576: true; the input reads as it did. -/
def planNumbersUptoRow : OpenClaim := { program := "ytfdhkijgolgnfaadoor", sum := "cf2d00da052182dc16b99ff703b679e8e6ba1aa6d43ebc6b6cddacc65092f62a", func := "lodge/lodgelaw14.PlanNumbers", spec := "planNumbers", inPlace := ["internal/reflectlite.TypeOf"], unfollowed := true, recurses := true, named := ["lodge/api.ErrMany", "lodge/api.ErrRange", "lodge/api.ErrShape", "lodge/api.ErrKind", "lodge/api.ErrEnd", "lodge/api.ErrRoom", "lodge/api.ErrNone", "lodge/api.ErrAlias", "lodge/api.ErrCost", "lodge/api.ErrJump", "lodge/api.ErrCycle", "lodge/api.ErrFuel", "lodge/api.ErrFull", "lodge/api.ErrQuota", "lodge/api.ErrCap", "lodge/api.ErrStale", "lodge/api.ErrTag", "lodge/api.ErrOld", "lodge/api.ErrTenant", "lodge/api.ErrWord", "lodge/api.ErrNumber"], apart := false, laid := [("lodge/api.ErrShape", laid_lodge_api_ErrShape), ("lodge/api.ErrRange", laid_lodge_api_ErrRange), ("lodge/api.ErrKind", laid_lodge_api_ErrKind), ("lodge/api.ErrMany", laid_lodge_api_ErrMany), ("lodge/api.ErrEnd", laid_lodge_api_ErrEnd), ("lodge/api.ErrRoom", laid_lodge_api_ErrRoom), ("lodge/api.ErrNone", laid_lodge_api_ErrNone), ("lodge/api.ErrAlias", laid_lodge_api_ErrAlias), ("lodge/api.ErrCost", laid_lodge_api_ErrCost), ("lodge/api.ErrJump", laid_lodge_api_ErrJump), ("lodge/api.ErrCycle", laid_lodge_api_ErrCycle), ("lodge/api.ErrFuel", laid_lodge_api_ErrFuel), ("lodge/api.ErrFull", laid_lodge_api_ErrFull), ("lodge/api.ErrQuota", laid_lodge_api_ErrQuota), ("lodge/api.ErrCap", laid_lodge_api_ErrCap), ("lodge/api.ErrStale", laid_lodge_api_ErrStale), ("lodge/api.ErrTag", laid_lodge_api_ErrTag), ("lodge/api.ErrOld", laid_lodge_api_ErrOld), ("lodge/api.ErrTenant", laid_lodge_api_ErrTenant), ("lodge/api.ErrWord", laid_lodge_api_ErrWord), ("lodge/api.ErrNumber", laid_lodge_api_ErrNumber)], narrowed := true }
def PlanNumbersUptoSaid : Prop := planNumbersUptoRow.holds Tryd.pinned (OpenSpec.upto planNumbersSpec)

/-- 'lodgelaw18.OrderWeights', WHERE WHAT IT READS IS OF BULK AT MOST 1048576: true; the input reads as it did. -/
def orderWeightsUptoRow : OpenClaim := { program := "ytfdhkijgolgnfaadoor", sum := "cf2d00da052182dc16b99ff703b679e8e6ba1aa6d43ebc6b6cddacc65092f62a", func := "lodge/lodgelaw18.OrderWeights", spec := "orderWeights", inPlace := ["internal/reflectlite.ValueOf", "(internal/reflectlite.Value).Type", "(internal/reflectlite.Value).IsNil", "internal/reflectlite.TypeOf", "(internal/reflectlite.Value).Elem", "(internal/reflectlite.Value).Set"], unfollowed := true, recurses := true, named := ["lodge/api.ErrNone", "lodge/api.ErrCycle", "lodge/api.ErrShape", "lodge/api.ErrRange", "lodge/api.ErrKind", "lodge/api.ErrMany", "lodge/api.ErrEnd", "lodge/api.ErrRoom", "lodge/api.ErrAlias", "lodge/api.ErrCost", "lodge/api.ErrJump", "lodge/api.ErrFuel", "lodge/api.ErrFull", "lodge/api.ErrQuota", "lodge/api.ErrCap", "lodge/api.ErrStale", "lodge/api.ErrTag", "lodge/api.ErrOld", "lodge/api.ErrTenant", "lodge/api.ErrWord", "lodge/api.ErrNumber", "errors.errorType"], apart := false, laid := [("errors.errorType", laid_errors_errorType), ("lodge/api.ErrShape", laid_lodge_api_ErrShape), ("lodge/api.ErrRange", laid_lodge_api_ErrRange), ("lodge/api.ErrKind", laid_lodge_api_ErrKind), ("lodge/api.ErrMany", laid_lodge_api_ErrMany), ("lodge/api.ErrEnd", laid_lodge_api_ErrEnd), ("lodge/api.ErrRoom", laid_lodge_api_ErrRoom), ("lodge/api.ErrNone", laid_lodge_api_ErrNone), ("lodge/api.ErrAlias", laid_lodge_api_ErrAlias), ("lodge/api.ErrCost", laid_lodge_api_ErrCost), ("lodge/api.ErrJump", laid_lodge_api_ErrJump), ("lodge/api.ErrCycle", laid_lodge_api_ErrCycle), ("lodge/api.ErrFuel", laid_lodge_api_ErrFuel), ("lodge/api.ErrFull", laid_lodge_api_ErrFull), ("lodge/api.ErrQuota", laid_lodge_api_ErrQuota), ("lodge/api.ErrCap", laid_lodge_api_ErrCap), ("lodge/api.ErrStale", laid_lodge_api_ErrStale), ("lodge/api.ErrTag", laid_lodge_api_ErrTag), ("lodge/api.ErrOld", laid_lodge_api_ErrOld), ("lodge/api.ErrTenant", laid_lodge_api_ErrTenant), ("lodge/api.ErrWord", laid_lodge_api_ErrWord), ("lodge/api.ErrNumber", laid_lodge_api_ErrNumber)], narrowed := true }
def OrderWeightsUptoSaid : Prop := orderWeightsUptoRow.holds Tryd.pinned (OpenSpec.upto orderWeightsSpec)

end Rows
end Go.Proofs.YtfdhkijgolgnfaaDoor
