/- Part Pf of the proof: a machine with trees for values, its soundness, and walks on it. -/
import Derived.Test.YtfdhkijgolgnfaaDoorPe
import Derived.Test.YtfdhkijgolgnfaaDoorRows
import Derived.ChangeSame
import Derived.ChangeVars
import Derived.JoinedOf
import Derived.RowKit
import Derived.RowKitTokens
import Derived.LaidLaws
import Derived.LaidHandle
import Derived.MakeChecks
import Derived.Stop.Joined
section
set_option linter.unusedVariables false
set_option linter.unusedSimpArgs false
namespace Go.Proofs.YtfdhkijgolgnfaaDoor
open Go.ChangeShapes Go.WideShapes Go.RowKit Go.Ideal Go.Ideal.Tryd
theorem own : ownKnob Tryd.prog.godebug = none := by kernel_rfl
theorem d9u : laidOutB Tryd.prog = true := by kernel_rfl
noncomputable def low : Nat := (World.holding Tryd.prog default ⟨#[], #[], []⟩).heap.size
noncomputable def d7e : List Obj := (List.range 21).map fun g => .cells #[.string ⟨((c12 Rows.orderSortsRow.laid g).getD []).toArray⟩] 251 (0, 0)
noncomputable def b7z (os : Os) : World :=
  let w0 := World.holding Tryd.prog os ⟨d7e.toArray, #[], []⟩
  { w0 with heap := ((w0.heap.toList.zipIdx).map fun
      | (.cells c t fz, i) => if i < 21 then .cells #[.iface 231 (.pointer (some ⟨low + i, 0, none⟩))] t fz else .cells c t fz
      | (o, _) => o).toArray }
theorem d0n (os : Os) (args : Array Value) : ((b7z os).forCall (fun _ _ => 0) ⟨#[], args, []⟩).Shaped Tryd.prog :=
  World.shaped_of_RefB (by kernel_rfl) (by kernel_rfl)
end Go.Proofs.YtfdhkijgolgnfaaDoor
end
section
set_option linter.unusedVariables false
set_option linter.unusedSimpArgs false
namespace Go.Proofs.YtfdhkijgolgnfaaDoor
open Go.ChangeShapes Go.WideShapes Go.RowKit Go.Ideal Go.Ideal.Tryd
section
variable {H : Type} {e : TypeId × Value → H} {w : World}
end
end Go.Proofs.YtfdhkijgolgnfaaDoor
end
