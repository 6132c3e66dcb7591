/- Part Pno of the proof: a machine with trees for values, its soundness, and walks on it. -/
import Derived.Test.YtfdhkijgolgnfaaDoorPf
import Derived.Test.YtfdhkijgolgnfaaDoorPv
import Derived.Test.YtfdhkijgolgnfaaDoorTie
import Derived.Test.YtfdhkijgolgnfaaDoorCards
import Derived.SevenTiedAt

section
set_option linter.unusedVariables false
set_option linter.unusedSimpArgs false
namespace Go.Proofs.YtfdhkijgolgnfaaDoor
open Go Go.ChangeShapes Go.WideShapes Go.RowKit Go.Ideal Go.Ideal.Tryd

theorem parRec12 : (Tryd.f12.params.toList.all fun t => Tryd.prog.readableRec t && decide (t < Tryd.prog.types.size)) = true := by kernel_rfl
theorem plainLaid12 : (Rows.planNumbersRow.laid.all fun x => x.2.handleName?.isNone) = true := by kernel_rfl
theorem sents12 : sentB Rows.planNumbersRow.laid = true := by kernel_rfl
theorem laidH_met12 (os : Os) (args : Array Value) : laidMetH Tryd.prog Rows.planNumbersRow.laid ((laidWorld os).forCall (fun _ _ => 0) ⟨#[], args, []⟩).memory := by
  rw [MakeChecks.laidMetH_plain _ _ _ plainLaid12]; exact laidMet_of_run' 8 (by kernel_rfl) (by kernel_rfl)
theorem sentW12 {W : World} (h : laidMetH Tryd.prog Rows.planNumbersRow.laid W) : ∃ G bk, Sent G bk ∧ ∀ g v, G g = some v → GC W g v ∧ g < W.heap.size := by
  rw [MakeChecks.laidMetH_plain _ _ _ plainLaid12] at h
  exact sent_of_laid h sents12
theorem result12 : Tryd.f12.resultTypes = #[4] := by kernel_rfl
set_option maxRecDepth 100000 in
theorem planNumbers_lifted (os : Os) (started : os.Started) (H : Type) (enc : TypeId × Value → H) :
    ReturnsInHanded {} Tryd.checked os 12 .any (fun w args => (Rows.planNumbersSpec.pre enc Tryd.prog Tryd.f12 [] false w args ∧ laidMetH Tryd.prog Rows.planNumbersRow.laid w) ∧ sizedMet enc Tryd.prog Tryd.f12 (OpenSpec.ofChange Rows.planNumbersSpec) false w args)
      (Rows.planNumbersSpec.post enc Tryd.prog Tryd.f12 false true false false) := by
  refine returnsInHanded_of_change_and (C := Tryd.checked) (X := fun w _ => laidMetH Tryd.prog Rows.planNumbersRow.laid w) (fun _ _ _ hh h => h.of_heap hh) own started (by kernel_rfl) Tryd.func12
    (ChangeSpec.witness_shaped (enc := enc) (C := Tryd.checked) (os := os) (X := fun w _ => laidMetH Tryd.prog Rows.planNumbersRow.laid w) false (laidWorld os) #[.int .i64 0, .int .i64 0] 8 rfl (laid_shaped os _) (by kernel_rfl) (by kernel_rfl) (by kernel_rfl) (laidH_met12 os _)) ?_
  intro W base args ds gs before hval0 hW _ hwt hL _
  have hval : ∀ (j : Nat) t v, Tryd.f12.params[j]? = some t → args[j]? = some v → Value.okWide Tryd.prog W .any base t v := hval0
  have hW' := hW
  obtain ⟨p, q, hA0, hV0, rfl, hfz, hnd⟩ := hW
  have hA : DataW.TrodAll enc Tryd.prog W 0 (fun _ => true) true Tryd.f12.params.toList args.toList ds p := hA0
  rw [Tryd.params12] at hA hval
  obtain ⟨v0, v1, d0, d1, p0, p1, rfl, rfl, rfl, h0, h1⟩ := trodAll_two hA
  obtain ⟨n, rfl, rfl, rfl, hn⟩ := open_int Tryd.underlying3 (hval 0 3 v0 rfl rfl) h0
  obtain ⟨b, rfl, rfl, rfl, hb0⟩ := open_int Tryd.underlying3 (hval 1 3 v1 rfl rfl) h1
  obtain ⟨rfl, rfl⟩ := trodVars_none (show DataW.TrodVars enc Tryd.prog W (fun _ => true) [] gs q from hV0)
  obtain ⟨G, bk, hS, hG⟩ := sentW12 hL
  refine (law_calls (planNumbers12 (G := G) hS n b) rfl hG (fun i av hi => ?_)).mono fun e W' ⟨he, hb⟩ => ?_
  · rcases i with _ | _ | i
    · simp at hi; subst hi; simp [R]
    · simp at hi; subst hi; simp [R]
    · simp at hi
  · subst he
    refine ⟨_, rfl, law_post laidOut (fun t ht => ?_) result12 Tryd.underlying4 rfl rfl hW' hb⟩
    have h := List.all_eq_true.1 parRec12 t ht
    simp only [Bool.and_eq_true, decide_eq_true_eq] at h
    exact h
theorem planNumbers_row : Rows.PlanNumbersSaid :=
  OpenClaim.holds_of_wide 12 Tryd.f12 rfl rfl rfl rfl rfl rfl rfl ⟨rfl, rfl, rfl, rfl, rfl⟩ rfl rfl rfl rfl rfl (by kernel_rfl) Tryd.func12 (by kernel_rfl)
    (of_decide_eq_true (by kernel_rfl)) (by unfold Func.isWrapper; rw [if_neg (of_decide_eq_false (by kernel_rfl))]; exact ⟨rfl, rfl⟩)
    (fun os started H enc _ => planNumbers_lifted os started H enc)
theorem planNumbers_holds : Rows.PlanNumbersCardSaid :=
  Claim7.holds_tied_plain_at .later [] [.sentinel, .sentinel, .sentinel, .sentinel, .sentinel, .sentinel, .sentinel, .sentinel, .sentinel, .sentinel, .sentinel, .sentinel, .sentinel, .sentinel, .sentinel, .sentinel, .sentinel, .sentinel, .sentinel, .sentinel, .sentinel] true (true, "47fb43701d527ba97f8cf6fd1dc4e72c6e366ffaa96a8b90e592e223bf285dda") true
    planNumbers_row (fun _ h => by cases h) (by kernel_rfl) (fun _ h => by cases h) planNumbers_row_tie rfl ⟨rfl, rfl⟩ (by kernel_rfl) rfl
    (fun f fn hf hfn => by
      obtain rfl : f = 12 := Option.some.inj ((show Tryd.prog.funcNamed "lodge/lodgelaw14.PlanNumbers" = some 12 by kernel_rfl).symm.trans hf) |>.symm
      obtain rfl : fn = Tryd.f12 := (Option.some.inj (Tryd.func12.symm.trans hfn)).symm
      exact ⟨by kernel_rfl, fun j t ht => by
        rw [Tryd.params12] at ht
        have h3 : t = 3 := by
          rcases j with _ | _ | j
          · simpa using ht.symm
          · simpa using ht.symm
          · simp at ht
        subst h3
        exact (show Tryd.prog.wantsStandIn 3 = false by kernel_rfl)⟩)
    (by kernel_rfl)
#print axioms planNumbers_holds
end Go.Proofs.YtfdhkijgolgnfaaDoor
end
