/- Part Pf of the proof: a machine with trees for values, its soundness, and walks on it. -/
import Derived.Test.YtfdhkijgolgnfaaDoorPe
import Derived.Test.YtfdhkijgolgnfaaDoorRows
import Derived.ChangeSame
import Derived.ChangeVars
import Derived.JoinedOf
import Derived.RowKit
import Derived.RowKitTokens
import Derived.LaidLaws
import Derived.LaidHandle
import Derived.MakeChecks
import Derived.Stop.Joined

section
set_option linter.unusedVariables false
set_option linter.unusedSimpArgs false
namespace Go.Proofs.YtfdhkijgolgnfaaDoor
open Go.ChangeShapes Go.WideShapes Go.RowKit Go.Ideal Go.Ideal.Tryd

theorem own : ownKnob Tryd.prog.godebug = none := by kernel_rfl
theorem laidOut : laidOutB Tryd.prog = true := by kernel_rfl
/-- A world that meets the condition: each sentinel points at a block of its own. -/
noncomputable def low : Nat := (World.holding Tryd.prog default ⟨#[], #[], []⟩).heap.size
noncomputable def lawTexts : List Obj := (List.range 21).map fun g => .cells #[.string ⟨((sentAt Rows.orderSortsRow.laid g).getD []).toArray⟩] 251 (0, 0)
noncomputable def laidWorld (os : Os) : World :=
  let w0 := World.holding Tryd.prog os ⟨lawTexts.toArray, #[], []⟩
  { w0 with heap := ((w0.heap.toList.zipIdx).map fun
      | (.cells c t fz, i) => if i < 21 then .cells #[.iface 231 (.pointer (some ⟨low + i, 0, none⟩))] t fz else .cells c t fz
      | (o, _) => o).toArray }
theorem laid_met (os : Os) (args : Array Value) : laidMet Tryd.prog Rows.orderSortsRow.laid ((laidWorld os).forCall (fun _ _ => 0) ⟨#[], args, []⟩).memory :=
  laidMet_of_run' 8 (by kernel_rfl) (by kernel_rfl)
theorem laid_shaped (os : Os) (args : Array Value) : ((laidWorld os).forCall (fun _ _ => 0) ⟨#[], args, []⟩).Shaped Tryd.prog :=
  World.shaped_of_RefB (by kernel_rfl) (by kernel_rfl)
end Go.Proofs.YtfdhkijgolgnfaaDoor
end

section
set_option linter.unusedVariables false
set_option linter.unusedSimpArgs false
namespace Go.Proofs.YtfdhkijgolgnfaaDoor
open Go.ChangeShapes Go.WideShapes Go.RowKit Go.Ideal Go.Ideal.Tryd

theorem sents : sentB Rows.orderSortsRow.laid = true := by kernel_rfl
theorem plainLaid : (Rows.orderSortsRow.laid.all fun x => x.2.handleName?.isNone) = true := by kernel_rfl
theorem laidH_met (os : Os) (args : Array Value) : laidMetH Tryd.prog Rows.orderSortsRow.laid ((laidWorld os).forCall (fun _ _ => 0) ⟨#[], args, []⟩).memory := by
  rw [MakeChecks.laidMetH_plain _ _ _ plainLaid]; exact laid_met os args
theorem sentW {W : World} (h : laidMetH Tryd.prog Rows.orderSortsRow.laid W) : ∃ G bk, Sent G bk ∧ ∀ g v, G g = some v → GC W g v ∧ g < W.heap.size := by
  rw [MakeChecks.laidMetH_plain _ _ _ plainLaid] at h
  exact sent_of_laid h sents
theorem parRec3 : (Tryd.f3.params.toList.all fun t => Tryd.prog.readableRec t && decide (t < Tryd.prog.types.size)) = true := by kernel_rfl
theorem result3 : Tryd.f3.resultTypes = #[4] := by kernel_rfl
section
variable {H : Type} {e : TypeId × Value → H} {w : World}
theorem rdInts : Rd e Tryd.prog w (List Int) 24 (fun xs => [slI xs]) (fun xs => xs.length ≤ reachBytes ∧ ∀ x ∈ xs, -9223372036854775808 ≤ x ∧ x ≤ 9223372036854775807) :=
  Rd.slice1 Tryd.underlying24 (of_decide_eq_true (by kernel_rfl)) (of_decide_eq_true (by kernel_rfl)) (Rd.int Tryd.underlying3)
theorem rdRows : Rd e Tryd.prog w (List (List Int)) 22 (fun xs => [slII xs]) (fun xs => xs.length ≤ reachBytes ∧ ∀ y ∈ xs, y.length ≤ reachBytes ∧ ∀ x ∈ y, -9223372036854775808 ≤ x ∧ x ≤ 9223372036854775807) :=
  Rd.slice1 Tryd.underlying22 (of_decide_eq_true (by kernel_rfl)) (of_decide_eq_true (by kernel_rfl)) rdInts
end
set_option maxRecDepth 100000 in
theorem orderSorts_lifted (os : Os) (started : os.Started) (H : Type) (enc : TypeId × Value → H) :
    ReturnsInHanded {} Tryd.checked os 3 .any (fun w args => (Rows.orderSortsSpec.pre enc Tryd.prog Tryd.f3 [] false w args ∧ laidMetH Tryd.prog Rows.orderSortsRow.laid w) ∧ sizedMet enc Tryd.prog Tryd.f3 (OpenSpec.ofChange Rows.orderSortsSpec) false w args)
      (Rows.orderSortsSpec.post enc Tryd.prog Tryd.f3 false true false false) := by
  refine returnsInHanded_of_change_and (C := Tryd.checked) (X := fun w _ => laidMetH Tryd.prog Rows.orderSortsRow.laid w) (fun _ _ _ hh h => h.of_heap hh) own started (by kernel_rfl) Tryd.func3
    (ChangeSpec.witness_shaped (enc := enc) (C := Tryd.checked) (os := os) (X := fun w _ => laidMetH Tryd.prog Rows.orderSortsRow.laid w) false (laidWorld os) #[.slice none 0 0] 8 rfl (laid_shaped os _) (by kernel_rfl) (by kernel_rfl) (by kernel_rfl) (laidH_met os _)) ?_
  intro W base args ds gs before hval0 hW _ hwt hL _
  have hval : ∀ (j : Nat) t v, Tryd.f3.params[j]? = some t → args[j]? = some v → Value.okWide Tryd.prog W .any base t v := hval0
  have hW' := hW
  obtain ⟨p, q, hA0, hV0, rfl, hfz, hnd⟩ := hW
  have hA : DataW.TrodAll enc Tryd.prog W 0 (fun _ => true) true Tryd.f3.params.toList args.toList ds p := hA0
  rw [Tryd.params3] at hA hval
  obtain ⟨v0, d0, rfl, rfl, h0⟩ := trodAll_one hA
  obtain ⟨a0, l0, c0, rfl⟩ := okWide_slice Tryd.underlying22 (hval 0 22 v0 rfl rfl)
  obtain ⟨rfl, rfl⟩ := trodVars_none (show DataW.TrodVars enc Tryd.prog W (fun _ => true) [] gs q from hV0)
  obtain ⟨fuel, h0⟩ := h0
  have hw0 : (d0.weights Tryd.prog 22).all (· ≤ reachBytes) = true := by
    show (d0.weights Tryd.checked.prog 22).all (· ≤ reachBytes) = true
    have := hwt
    rw [Tryd.params3] at this
    simpa [DataW.weightsEach, Rows.orderSortsSpec, ChangeSpec.plain] using this
  obtain ⟨ins, ⟨hl, hok⟩, hr, -⟩ := rdRows (e := enc) (w := W) fuel _ d0 p h0 hw0
  obtain ⟨G, bk, hS, hG⟩ := sentW hL
  refine (law_calls (orderSorts3 hS (ins := ins) (by unfold reachBytes at hl; omega)) rfl hG (fun i av hi => ?_)).mono fun e W' ⟨he, hb⟩ => ?_
  · cases i with
    | zero => simp at hi; subst hi; obtain ⟨v, hv, hr⟩ := RL_one hr; simp [Value.cells] at hv; subst hv; exact hr
    | succ i => simp at hi
  · subst he
    refine ⟨_, rfl, law_post laidOut (fun t ht => ?_) result3 Tryd.underlying4 rfl rfl hW' hb⟩
    have h := List.all_eq_true.1 parRec3 t ht
    simp only [Bool.and_eq_true, decide_eq_true_eq] at h
    exact h
end Go.Proofs.YtfdhkijgolgnfaaDoor
end
