/- Part Pbk of the proof: a machine with trees for values, its soundness, and walks on it. -/
import Derived.Test.YtfdhkijgolgnfaaGreatDoorPf
import Derived.Test.YtfdhkijgolgnfaaGreatDoorPv
import Derived.Test.YtfdhkijgolgnfaaGreatDoorTie
import Derived.Test.YtfdhkijgolgnfaaGreatDoorCards
import Derived.SevenTiedAt
import Derived.Carry
section
set_option linter.unusedVariables false
set_option linter.unusedSimpArgs false
namespace Go.Proofs.YtfdhkijgolgnfaaGreatDoor
open Go Go.ChangeShapes Go.WideShapes Go.RowKit Go.Ideal Go.Ideal.Tryz
theorem f0i : (Tryz.f3.params.toList.all fun t => Tryz.prog.readableRec t && decide (t < Tryz.prog.types.size)) = true := by kernel_rfl
theorem f1c : Tryz.f3.resultTypes = #[4] := by kernel_rfl
theorem c9a : (Rows.planBackRow.laid.all fun x => x.2.handleName?.isNone) = true := by kernel_rfl
theorem g0p : f9n Rows.planBackRow.laid = true := by kernel_rfl
theorem e15 (os : Os) (args : Array Value) : laidMetH Tryz.prog Rows.planBackRow.laid ((c5t os).forCall (fun _ _ => 0) ⟨#[], args, []⟩).memory := by
  rw [MakeChecks.laidMetH_plain _ _ _ c9a]; exact laidMet_of_run' 8 (by kernel_rfl) (by kernel_rfl)
theorem g2u {W : World} (h : laidMetH Tryz.prog Rows.planBackRow.laid W) : ∃ G bk, Sent G bk ∧ ∀ g v, G g = some v → GC W g v ∧ g < W.heap.size := by
  rw [MakeChecks.laidMetH_plain _ _ _ c9a] at h
  exact d4w h g0p
set_option maxRecDepth 100000 in
theorem c56 (os : Os) (started : os.Started) (H : Type) (enc : TypeId × Value → H) :
    ReturnsInHanded {} Tryz.checked os 3 .any (fun w args => (Rows.planBackSpec.pre enc Tryz.prog Tryz.f3 [] false w args ∧ laidMetH Tryz.prog Rows.planBackRow.laid w) ∧ sizedMet enc Tryz.prog Tryz.f3 (OpenSpec.ofChange Rows.planBackSpec) false w args)
      (Rows.planBackSpec.post enc Tryz.prog Tryz.f3 false true false false) := by
  refine returnsInHanded_of_change_and (C := Tryz.checked) (X := fun w _ => laidMetH Tryz.prog Rows.planBackRow.laid w) (fun _ _ _ hh h => h.of_heap hh) own started (by kernel_rfl) Tryz.func3
    (ChangeSpec.witness_shaped (enc := enc) (C := Tryz.checked) (os := os) (X := fun w _ => laidMetH Tryz.prog Rows.planBackRow.laid w) false (c5t os) #[.agg #[.int .i64 0, .slice none 0 0, .slice none 0 0, .slice none 0 0, .slice none 0 0, .int .i64 0, .int .i64 0], .int .i64 0] 8 rfl (e0v os _) (by kernel_rfl) (by kernel_rfl) (by kernel_rfl) (e15 os _)) ?_
  intro W base args ds gs before hval0 hW _ hwt hL _
  have hval : ∀ (j : Nat) t v, Tryz.f3.params[j]? = some t → args[j]? = some v → Value.okWide Tryz.prog W .any base t v := hval0
  have hW' := hW
  obtain ⟨p, q, hA0, hV0, rfl, hfz, hnd⟩ := hW
  have hA : DataW.TrodAll enc Tryz.prog W 0 (fun _ => true) true Tryz.f3.params.toList args.toList ds p := hA0
  rw [Tryz.params3] at hA hval
  obtain ⟨v0, v1, d0, d1, p0, p1, rfl, rfl, rfl, h0, h1⟩ := trodAll_two hA
  have hok0 := hval 0 27 v0 rfl rfl
  obtain ⟨a1, rfl, rfl, rfl, q1⟩ := open_int Tryz.underlying3 (hval 1 3 v1 rfl rfl) h1
  obtain ⟨rfl, rfl⟩ := trodVars_none (show DataW.TrodVars enc Tryz.prog W (fun _ => true) [] gs q from hV0)
  obtain ⟨fuel0, h0⟩ := h0
  have hww : ((d0.weights Tryz.checked.prog 27).all (· ≤ reachBytes) && ((DataW.lit (H := H) (Lit.int IntKind.i64 a1)).weights Tryz.checked.prog 3).all (· ≤ reachBytes)) = true := by
    have := hwt
    rw [Tryz.params3] at this
    simpa [DataW.weightsEach, Rows.planBackSpec, ChangeSpec.plain] using this
  simp only [Bool.and_eq_true] at hww
  obtain ⟨a0, q0, r0, c0⟩ := g1c (e := enc) (w := W) fuel0 _ d0 p0 h0 hww.1
  obtain ⟨G, bk, hS, hG⟩ := g2u hL
  refine (e4t (e5v (G := G) hS a0 a1 q0) rfl hG (fun i av hi => ?_)).mono fun e W' ⟨he, hb⟩ => ?_
  · rcases i with _ | _ | i
    · simp at hi; subst hi; exact e6z e3r hok0 r0 c0
    · simp at hi; subst hi; simp [R]
    · simp at hi
  · subst he
    refine ⟨_, rfl, e8s f0v (fun t ht => ?_) f1c Tryz.underlying4 rfl rfl hW' hb⟩
    have h := List.all_eq_true.1 f0i t ht
    simp only [Bool.and_eq_true, decide_eq_true_eq] at h
    exact h
theorem d4q : Rows.PlanBackSaid :=
  OpenClaim.holds_of_wide 3 Tryz.f3 rfl rfl rfl rfl rfl rfl rfl ⟨rfl, rfl, rfl, rfl, rfl⟩ rfl rfl rfl rfl rfl (by kernel_rfl) Tryz.func3 (by kernel_rfl)
    (of_decide_eq_true (by kernel_rfl)) (by unfold Func.isWrapper; rw [if_neg (of_decide_eq_false (by kernel_rfl))]; exact ⟨rfl, rfl⟩)
    (fun os started H enc _ => c56 os started H enc)
theorem planBack_holds : Rows.PlanBackCardSaid :=
  Claim7.holds_tied_plain_at .later [] [.sentinel, .sentinel, .sentinel, .sentinel, .sentinel, .sentinel, .sentinel, .sentinel, .sentinel, .sentinel, .sentinel, .sentinel, .sentinel, .sentinel, .sentinel, .sentinel, .sentinel, .sentinel, .sentinel, .sentinel, .sentinel] true (true, "8961e3c8c275d2d43340609ca75e680683c0d5bbfe797d33d2632612863394eb") true
    d4q (fun _ h => by cases h) (by kernel_rfl) (fun _ h => by cases h) planBack_row_tie rfl ⟨rfl, rfl⟩ (by kernel_rfl) rfl
    (fun f fn hf hfn => by
      obtain rfl : f = 3 := Option.some.inj ((show Tryz.prog.funcNamed "lodge/lodgelaw14.PlanBack" = some 3 by kernel_rfl).symm.trans hf) |>.symm
      obtain rfl : fn = Tryz.f3 := (Option.some.inj (Tryz.func3.symm.trans hfn)).symm
      exact ⟨by kernel_rfl, fun j t ht => by
        rw [Tryz.params3] at ht
        have h3 : t = 3 ∨ t = 27 := by
          rcases j with _ | _ | j
          · exact .inr ((by simpa using ht.symm))
          · exact .inl (by simpa using ht.symm)
          · simp at ht
        rcases h3 with rfl | rfl
        · exact (show Tryz.prog.wantsStandIn 3 = false by kernel_rfl)
        · exact (show Tryz.prog.wantsStandIn 27 = false by kernel_rfl)⟩)
    (by kernel_rfl)
#print axioms planBack_holds
end Go.Proofs.YtfdhkijgolgnfaaGreatDoor
end
