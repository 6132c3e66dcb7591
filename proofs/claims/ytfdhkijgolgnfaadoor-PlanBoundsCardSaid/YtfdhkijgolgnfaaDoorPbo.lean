/- Part Pbo of the proof: a machine with trees for values, its soundness, and walks on it. -/
import Derived.Test.YtfdhkijgolgnfaaDoorPf
import Derived.Test.YtfdhkijgolgnfaaDoorPu
import Derived.Test.YtfdhkijgolgnfaaDoorTie
import Derived.Test.YtfdhkijgolgnfaaDoorCards
import Derived.SevenTiedAt

section
set_option linter.unusedVariables false
set_option linter.unusedSimpArgs false
namespace Go.Proofs.YtfdhkijgolgnfaaDoor
open Go Go.ChangeShapes Go.WideShapes Go.RowKit Go.Ideal Go.Ideal.Tryd

theorem parRec11 : (Tryd.f11.params.toList.all fun t => Tryd.prog.readableRec t && decide (t < Tryd.prog.types.size)) = true := by kernel_rfl
theorem plainLaid11 : (Rows.planBoundsRow.laid.all fun x => x.2.handleName?.isNone) = true := by kernel_rfl
theorem sents11 : sentB Rows.planBoundsRow.laid = true := by kernel_rfl
theorem laidH_met11 (os : Os) (args : Array Value) : laidMetH Tryd.prog Rows.planBoundsRow.laid ((laidWorld os).forCall (fun _ _ => 0) ⟨#[], args, []⟩).memory := by
  rw [MakeChecks.laidMetH_plain _ _ _ plainLaid11]; exact laidMet_of_run' 8 (by kernel_rfl) (by kernel_rfl)
theorem sentW11 {W : World} (h : laidMetH Tryd.prog Rows.planBoundsRow.laid W) : ∃ G bk, Sent G bk ∧ ∀ g v, G g = some v → GC W g v ∧ g < W.heap.size := by
  rw [MakeChecks.laidMetH_plain _ _ _ plainLaid11] at h
  exact sent_of_laid h sents11
theorem result11 : Tryd.f11.resultTypes = #[4] := by kernel_rfl
set_option maxRecDepth 100000 in
theorem planBounds_lifted (os : Os) (started : os.Started) (H : Type) (enc : TypeId × Value → H) :
    ReturnsInHanded {} Tryd.checked os 11 .any (fun w args => (Rows.planBoundsSpec.pre enc Tryd.prog Tryd.f11 [] false w args ∧ laidMetH Tryd.prog Rows.planBoundsRow.laid w) ∧ sizedMet enc Tryd.prog Tryd.f11 (OpenSpec.ofChange Rows.planBoundsSpec) false w args)
      (Rows.planBoundsSpec.post enc Tryd.prog Tryd.f11 false true false false) := by
  refine returnsInHanded_of_change_and (C := Tryd.checked) (X := fun w _ => laidMetH Tryd.prog Rows.planBoundsRow.laid w) (fun _ _ _ hh h => h.of_heap hh) own started (by kernel_rfl) Tryd.func11
    (ChangeSpec.witness_shaped (enc := enc) (C := Tryd.checked) (os := os) (X := fun w _ => laidMetH Tryd.prog Rows.planBoundsRow.laid w) false (laidWorld os) #[.int .i64 0, .int .i64 0] 8 rfl (laid_shaped os _) (by kernel_rfl) (by kernel_rfl) (by kernel_rfl) (laidH_met11 os _)) ?_
  intro W base args ds gs before hval0 hW _ hwt hL _
  have hval : ∀ (j : Nat) t v, Tryd.f11.params[j]? = some t → args[j]? = some v → Value.okWide Tryd.prog W .any base t v := hval0
  have hW' := hW
  obtain ⟨p, q, hA0, hV0, rfl, hfz, hnd⟩ := hW
  have hA : DataW.TrodAll enc Tryd.prog W 0 (fun _ => true) true Tryd.f11.params.toList args.toList ds p := hA0
  rw [Tryd.params11] at hA hval
  obtain ⟨v0, v1, d0, d1, p0, p1, rfl, rfl, rfl, h0, h1⟩ := trodAll_two hA
  obtain ⟨n, rfl, rfl, rfl, hn⟩ := open_int Tryd.underlying3 (hval 0 3 v0 rfl rfl) h0
  obtain ⟨b, rfl, rfl, rfl, hb0⟩ := open_int Tryd.underlying3 (hval 1 3 v1 rfl rfl) h1
  obtain ⟨rfl, rfl⟩ := trodVars_none (show DataW.TrodVars enc Tryd.prog W (fun _ => true) [] gs q from hV0)
  obtain ⟨G, bk, hS, hG⟩ := sentW11 hL
  refine (law_calls (planBounds11 (G := G) hS n b) rfl hG (fun i av hi => ?_)).mono fun e W' ⟨he, hb⟩ => ?_
  · rcases i with _ | _ | i
    · simp at hi; subst hi; simp [R]
    · simp at hi; subst hi; simp [R]
    · simp at hi
  · subst he
    refine ⟨_, rfl, law_post laidOut (fun t ht => ?_) result11 Tryd.underlying4 rfl rfl hW' hb⟩
    have h := List.all_eq_true.1 parRec11 t ht
    simp only [Bool.and_eq_true, decide_eq_true_eq] at h
    exact h
theorem planBounds_row : Rows.PlanBoundsSaid :=
  OpenClaim.holds_of_wide 11 Tryd.f11 rfl rfl rfl rfl rfl rfl rfl ⟨rfl, rfl, rfl, rfl, rfl⟩ rfl rfl rfl rfl rfl (by kernel_rfl) Tryd.func11 (by kernel_rfl)
    (of_decide_eq_true (by kernel_rfl)) (by unfold Func.isWrapper; rw [if_neg (of_decide_eq_false (by kernel_rfl))]; exact ⟨rfl, rfl⟩)
    (fun os started H enc _ => planBounds_lifted os started H enc)
theorem planBounds_holds : Rows.PlanBoundsCardSaid :=
  Claim7.holds_tied_plain_at .later [] [.sentinel, .sentinel, .sentinel, .sentinel, .sentinel, .sentinel, .sentinel, .sentinel, .sentinel, .sentinel, .sentinel, .sentinel, .sentinel, .sentinel, .sentinel, .sentinel, .sentinel, .sentinel, .sentinel, .sentinel, .sentinel] true (true, "47fb43701d527ba97f8cf6fd1dc4e72c6e366ffaa96a8b90e592e223bf285dda") true
    planBounds_row (fun _ h => by cases h) (by kernel_rfl) (fun _ h => by cases h) planBounds_row_tie rfl ⟨rfl, rfl⟩ (by kernel_rfl) rfl
    (fun f fn hf hfn => by
      obtain rfl : f = 11 := Option.some.inj ((show Tryd.prog.funcNamed "lodge/lodgelaw14.PlanBounds" = some 11 by kernel_rfl).symm.trans hf) |>.symm
      obtain rfl : fn = Tryd.f11 := (Option.some.inj (Tryd.func11.symm.trans hfn)).symm
      exact ⟨by kernel_rfl, fun j t ht => by
        rw [Tryd.params11] at ht
        have h3 : t = 3 := by
          rcases j with _ | _ | j
          · simpa using ht.symm
          · simpa using ht.symm
          · simp at ht
        subst h3
        exact (show Tryd.prog.wantsStandIn 3 = false by kernel_rfl)⟩)
    (by kernel_rfl)
#print axioms planBounds_holds
end Go.Proofs.YtfdhkijgolgnfaaDoor
end
