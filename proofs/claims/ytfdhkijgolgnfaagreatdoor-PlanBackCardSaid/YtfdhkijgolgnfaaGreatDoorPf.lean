/- Part Pf of the proof: a machine with trees for values, its soundness, and walks on it. -/
import Derived.Test.YtfdhkijgolgnfaaGreatDoorPe
import Derived.Test.YtfdhkijgolgnfaaGreatDoorRows
import Derived.ChangeSame
import Derived.ChangeVars
import Derived.JoinedOf
import Derived.RowKit
import Derived.RowKitTokens
import Derived.LaidLaws
import Derived.LaidHandle
import Derived.MakeChecks
import Derived.Stop.Joined
import Derived.Test.YtfdhkijgolgnfaaGreatDoorPk
section
set_option linter.unusedVariables false
set_option linter.unusedSimpArgs false
namespace Go.Proofs.YtfdhkijgolgnfaaGreatDoor
open Go Go.ChangeShapes Go.WideShapes Go.RowKit Go.Ideal Go.Ideal.Tryz
theorem own : ownKnob Tryz.prog.godebug = none := by kernel_rfl
theorem f0v : laidOutB Tryz.prog = true := by kernel_rfl
noncomputable def low : Nat := (World.holding Tryz.prog default ⟨#[], #[], []⟩).heap.size
noncomputable def e8r : List Obj := (List.range 21).map fun g => .cells #[.string ⟨((c9w Rows.planBackRow.laid g).getD []).toArray⟩] 170 (0, 0)
noncomputable def c5t (os : Os) : World :=
  let w0 := World.holding Tryz.prog os ⟨e8r.toArray, #[], []⟩
  { w0 with heap := ((w0.heap.toList.zipIdx).map fun
      | (.cells c t fz, i) => if i < 21 then .cells #[.iface 146 (.pointer (some ⟨low + i, 0, none⟩))] t fz else .cells c t fz
      | (o, _) => o).toArray }
theorem e0v (os : Os) (args : Array Value) : ((c5t os).forCall (fun _ _ => 0) ⟨#[], args, []⟩).Shaped Tryz.prog :=
  World.shaped_of_RefB (by kernel_rfl) (by kernel_rfl)
end Go.Proofs.YtfdhkijgolgnfaaGreatDoor
end
section
set_option linter.unusedVariables false
set_option linter.unusedSimpArgs false
namespace Go.Proofs.YtfdhkijgolgnfaaGreatDoor
open Go Go.ChangeShapes Go.WideShapes Go.RowKit Go.Ideal Go.Ideal.Tryz
section
variable {H : Type} {e : TypeId × Value → H} {w : World}
theorem d4y : Rd e Tryz.prog w Int 3 (fun n => [li n]) (fun n => -9223372036854775808 ≤ n ∧ n ≤ 9223372036854775807) := Rd.int Tryz.underlying3
theorem g17 : Rd e Tryz.prog w Bool 4 (fun n => [lb n]) (fun _ => True) := Rd.bool Tryz.underlying4
theorem e0y : Rd e Tryz.prog w (List Int) 46 (fun xs => [slI xs]) (fun xs => xs.length ≤ reachBytes ∧ ∀ x ∈ xs, -9223372036854775808 ≤ x ∧ x ≤ 9223372036854775807) :=
  Rd.slice1 Tryz.underlying46 (of_decide_eq_true (by kernel_rfl)) (of_decide_eq_true (by kernel_rfl)) (Rd.int Tryz.underlying3)
theorem c2s : Tryz.prog.cellsOf 3 = 1 := by kernel_rfl
theorem g2l : Tryz.prog.cellsOf 4 = 1 := by kernel_rfl
theorem d2d : Tryz.prog.cellsOf 46 = 1 := by kernel_rfl
theorem c95 : Tryz.prog.cellsOf 56 = 2 := by kernel_rfl
theorem e41 : Tryz.prog.cellsOf 66 = 3 := by kernel_rfl
theorem e44 : Tryz.prog.cellsOf 58 = 3 := by kernel_rfl
theorem e4l : Tryz.prog.cellsOf 48 = 6 := by kernel_rfl
theorem e9o : Tryz.prog.cellsOf 27 = 7 := by kernel_rfl
theorem e99 : Tryz.prog.cellsOf 24 = 1 := by kernel_rfl
theorem f0n : Tryz.prog.cellsOf 23 = 1 := by kernel_rfl
theorem f0y : Tryz.prog.cellsOf 22 = 1 := by kernel_rfl
theorem f0e : Tryz.prog.cellsOf 25 = 1 := by kernel_rfl
theorem h3l : Rd e Tryz.prog w Ds 56 eD (fun d => d.shape.length ≤ reachBytes) :=
  (Rd.struct (l := [(46, 0), (4, 1)]) (by kernel_rfl) c95 (.cons d2d e0y (.cons g2l g17 .nil))).map (fun x => ⟨x.1, x.2.1⟩) (fun x => rfl) (fun x hx => hx.1.1)
theorem h8e : Rd e Tryz.prog w Tn 66 eT (fun d => d.shape.length ≤ reachBytes ∧ d.data.length ≤ reachBytes) :=
  (Rd.struct (l := [(56, 0), (46, 2)]) (by kernel_rfl) e41 (.cons c95 h3l (.cons d2d e0y .nil))).map (fun x => ⟨x.1.shape, x.1.wide, x.2.1⟩) (fun x => rfl) (fun x hx => ⟨hx.1, hx.2.1.1⟩)
theorem h83 : Rd e Tryz.prog w Vw 58 eV (fun d => d.shape.length ≤ reachBytes) :=
  (Rd.struct (l := [(3, 0), (56, 1)]) (by kernel_rfl) e44 (.cons c2s d4y (.cons c95 h3l .nil))).map (fun x => ⟨x.1, x.2.1.shape, x.2.1.wide⟩) (fun x => rfl) (fun x hx => hx.2.1)
theorem h8c : Rd e Tryz.prog w In 48 eI (fun d => d.ins.length ≤ reachBytes ∧ d.args.length ≤ reachBytes) :=
  (Rd.struct (l := [(3, 0), (3, 1), (46, 2), (46, 3), (3, 4), (3, 5)]) (by kernel_rfl) e4l (.cons c2s d4y (.cons c2s d4y (.cons d2d e0y (.cons d2d e0y (.cons c2s d4y (.cons c2s d4y .nil))))))).map
    (fun x => ⟨x.1, x.2.1, x.2.2.1, x.2.2.2.1, x.2.2.2.2.1, x.2.2.2.2.2.1⟩) (fun x => rfl) (fun x hx => ⟨hx.2.2.1.1, hx.2.2.2.1.1⟩)
theorem h2q : Tryz.prog.underlying 24 = some (.slice 56) := by kernel_rfl
theorem h1l : Rd e Tryz.prog w (List Ds) 24 (fun xs => [slD xs]) (fun xs => xs.length ≤ reachBytes ∧ ∀ x ∈ xs, x.shape.length ≤ reachBytes) :=
  Rd.slice h2q (of_decide_eq_true (by kernel_rfl)) h3l (fun x => by rw [c95]; rfl)
theorem h27 : Tryz.prog.underlying 23 = some (.slice 66) := by kernel_rfl
theorem g91 : Rd e Tryz.prog w (List Tn) 23 (fun xs => [slT xs]) (fun xs => xs.length ≤ reachBytes ∧ ∀ x ∈ xs, x.shape.length ≤ reachBytes ∧ x.data.length ≤ reachBytes) :=
  Rd.slice h27 (of_decide_eq_true (by kernel_rfl)) h8e (fun x => by rw [e41]; rfl)
theorem h1a : Tryz.prog.underlying 22 = some (.slice 58) := by kernel_rfl
theorem g9l : Rd e Tryz.prog w (List Vw) 22 (fun xs => [slV xs]) (fun xs => xs.length ≤ reachBytes ∧ ∀ x ∈ xs, x.shape.length ≤ reachBytes) :=
  Rd.slice h1a (of_decide_eq_true (by kernel_rfl)) h83 (fun x => by rw [e44]; rfl)
theorem h28 : Tryz.prog.underlying 25 = some (.slice 48) := by kernel_rfl
theorem h1q : Rd e Tryz.prog w (List In) 25 (fun xs => [slJ xs]) (fun xs => xs.length ≤ reachBytes ∧ ∀ x ∈ xs, x.ins.length ≤ reachBytes ∧ x.args.length ≤ reachBytes) :=
  Rd.slice h28 (of_decide_eq_true (by kernel_rfl)) h8c (fun x => by rw [e4l]; rfl)
theorem e3r : c5z Tryz.prog 27 [(3, 0), (22, 1), (23, 2), (24, 3), (25, 4), (3, 5), (3, 6)] = true := by kernel_rfl
theorem g1c : Rd e Tryz.prog w Pl 27 eP Pl.fin :=
  (Rd.struct e3r e9o (.cons c2s d4y (.cons f0y g9l (.cons f0n g91 (.cons e99 h1l (.cons f0e h1q (.cons c2s d4y (.cons c2s d4y .nil)))))))).map
    (fun x => ⟨x.1, x.2.1, x.2.2.1, x.2.2.2.1, x.2.2.2.2.1, x.2.2.2.2.2.1, x.2.2.2.2.2.2.1⟩) (fun x => rfl)
    (fun x hx => by
      obtain ⟨_, ⟨v1, v2⟩, ⟨c1, c2⟩, ⟨w1, w2⟩, ⟨i1, i2⟩, _⟩ := hx
      have k : ∀ n : Nat, n ≤ reachBytes → n < 2 ^ 62 := fun n h => Nat.lt_of_le_of_lt h (by unfold reachBytes; decide)
      exact ⟨k _ v1, k _ c1, k _ w1, k _ i1, fun x hx => k _ (v2 x hx), fun x hx => ⟨k _ (c2 x hx).1, k _ (c2 x hx).2⟩, fun x hx => k _ (w2 x hx), fun x hx => ⟨k _ (i2 x hx).1, k _ (i2 x hx).2⟩⟩)
end
end Go.Proofs.YtfdhkijgolgnfaaGreatDoor
end
