/- Part Qbm of the proof: a machine with trees for values, its soundness, and walks on it. -/
import Derived.Test.YtfncabcldhemkaaDoorQag
import Derived.Test.YtfncabcldhemkaaDoorQbk
import Derived.Test.YtfncabcldhemkaaDoorTie
import Derived.Test.YtfncabcldhemkaaDoorCards
import Derived.SevenTiedAt
import Derived.Carry
section
set_option linter.unusedVariables false
set_option linter.unusedSimpArgs false
namespace Go.Proofs.YtfncabcldhemkaaDoor
open Go Go.ChangeShapes Go.WideShapes Go.RowKit Go.Ideal Go.Ideal.Tryd
theorem f0u : (Tryd.f5.params.toList.all fun t => Tryd.prog.readableRec t && decide (t < Tryd.prog.types.size)) = true := by kernel_rfl
theorem f1u : Tryd.f5.resultTypes = #[4] := by kernel_rfl
noncomputable abbrev g3k : List (String × DataW Unit) := Rows.checkBoundsRow.laid.filter fun x => x.2.handleName?.isNone
theorem e67 : (Rows.checkBoundsRow.laid.filter fun x => x.2.handleName?.isSome) = [hX] := by kernel_rfl
theorem g31 : e45 g3k = true := by kernel_rfl
theorem d98 (os : Os) (args : Array Value) : laidMetH Tryd.prog Rows.checkBoundsRow.laid ((a4f os).forCall (fun _ _ => 0) ⟨#[], args, []⟩).memory :=
  laidMetH_of_parts (laidMet_of_run' 8 (by kernel_rfl) (by kernel_rfl)) (by kernel_rfl)
theorem g0y {W : World} (h : laidMetH Tryd.prog Rows.checkBoundsRow.laid W) : ∃ (G : GG) (bk : Nat → Nat × Nat), Sent G bk ∧ Around G bk ∧ ∀ g v, G.at g v → GC G W g v ∧ g < W.heap.size := by
  unfold laidMetH at h
  rw [e67] at h
  obtain ⟨G, bk, h0, h1, h2⟩ := a7y (hs := [(8, hV)]) h.1 g31 (fun p hp => by
    obtain rfl := List.mem_singleton.1 hp
    exact a4y h.2)
  exact ⟨G, bk, h1, b5d h0, h2⟩
set_option maxRecDepth 100000 in
theorem b6l (os : Os) (started : os.Started) (H : Type) (enc : TypeId × Value → H) :
    ReturnsInHanded {} Tryd.checked os 5 .any (fun w args => (Rows.checkBoundsSpec.pre enc Tryd.prog Tryd.f5 [] false w args ∧ laidMetH Tryd.prog Rows.checkBoundsRow.laid w) ∧ sizedMet enc Tryd.prog Tryd.f5 (OpenSpec.ofChange Rows.checkBoundsSpec) false w args)
      (Rows.checkBoundsSpec.post enc Tryd.prog Tryd.f5 false true false false) := by
  refine returnsInHanded_of_change_and (C := Tryd.checked) (X := fun w _ => laidMetH Tryd.prog Rows.checkBoundsRow.laid w) (fun _ _ _ hh h => h.of_heap hh) own started (by kernel_rfl) Tryd.func5
    (ChangeSpec.witness_shaped (enc := enc) (C := Tryd.checked) (os := os) (X := fun w _ => laidMetH Tryd.prog Rows.checkBoundsRow.laid w) false (a4f os) #[.agg #[.int .i64 0, .slice none 0 0, .slice none 0 0, .slice none 0 0, .slice none 0 0, .int .i64 0, .int .i64 0]] 8 rfl (b0g os _) (by kernel_rfl) (by kernel_rfl) (by kernel_rfl) (d98 os _)) ?_
  intro W base args ds gs before hval0 hW _ hwt hL _
  have hval : ∀ (j : Nat) t v, Tryd.f5.params[j]? = some t → args[j]? = some v → Value.okWide Tryd.prog W .any base t v := hval0
  have hW' := hW
  obtain ⟨p, q, hA0, hV0, rfl, hfz, hnd⟩ := hW
  have hA : DataW.TrodAll enc Tryd.prog W 0 (fun _ => true) true Tryd.f5.params.toList args.toList ds p := hA0
  rw [Tryd.params5] at hA hval
  obtain ⟨v0, d0, rfl, rfl, h0⟩ := trodAll_one hA
  have hok0 := hval 0 37 v0 rfl rfl
  obtain ⟨rfl, rfl⟩ := trodVars_none (show DataW.TrodVars enc Tryd.prog W (fun _ => true) [] gs q from hV0)
  obtain ⟨fuel0, h0⟩ := h0
  have hww : (d0.weights Tryd.checked.prog 37).all (· ≤ reachBytes) = true := by
    have := hwt
    rw [Tryd.params5] at this
    simpa [DataW.weightsEach, Rows.checkBoundsSpec, ChangeSpec.plain] using this
  obtain ⟨a0, q0, r0, c0⟩ := f6j (e := enc) (w := W) fuel0 _ d0 p h0 hww
  obtain ⟨G, bk, hS, hAr, hG⟩ := g0y hL
  refine (b5l (d5t (G := G) hS hAr a0 q0) rfl hG (fun i av hi => ?_)).mono fun e W' ⟨he, hb⟩ => ?_
  · rcases i with _ | i
    · simp at hi; subst hi; exact e57 e5m hok0 r0 c0
    · simp at hi
  · subst he
    refine ⟨_, rfl, b9n d14 (fun t ht => ?_) f1u Tryd.underlying4 rfl rfl hW' hb⟩
    have h := List.all_eq_true.1 f0u t ht
    simp only [Bool.and_eq_true, decide_eq_true_eq] at h
    exact h
theorem b91 : Rows.CheckBoundsSaid :=
  OpenClaim.holds_of_wide 5 Tryd.f5 rfl rfl rfl rfl rfl rfl rfl ⟨rfl, rfl, rfl, rfl, rfl⟩ rfl rfl rfl rfl rfl (by kernel_rfl) Tryd.func5 (by kernel_rfl)
    (of_decide_eq_true (by kernel_rfl)) (by unfold Func.isWrapper; rw [if_neg (of_decide_eq_false (by kernel_rfl))]; exact ⟨rfl, rfl⟩)
    (fun os started H enc _ => b6l os started H enc)
theorem checkBounds_holds : Rows.CheckBoundsCardSaid :=
  Claim7.holds_tied_plain_at .later [] [.handle, .sentinel, .sentinel, .sentinel, .sentinel, .sentinel, .sentinel, .sentinel, .sentinel, .sentinel, .sentinel, .sentinel, .sentinel, .sentinel, .sentinel, .sentinel, .sentinel, .sentinel, .sentinel, .sentinel, .sentinel, .sentinel] true (true, "d33aeda1eb0ca5fb131a203b9d27d98fa0c1848715344d7bc965e387de122db1") true
    b91 (fun _ h => by cases h) (by kernel_rfl) (fun _ h => by cases h) checkBounds_row_tie rfl ⟨rfl, rfl⟩ (by kernel_rfl) rfl
    (fun f fn hf hfn => by
      obtain rfl : f = 5 := Option.some.inj ((show Tryd.prog.funcNamed "lodge/lodgelaw15.CheckBounds" = some 5 by kernel_rfl).symm.trans hf) |>.symm
      obtain rfl : fn = Tryd.f5 := (Option.some.inj (Tryd.func5.symm.trans hfn)).symm
      exact ⟨by kernel_rfl, fun j t ht => by
        rw [Tryd.params5] at ht
        have h3 : t = 37 := by
          rcases j with _ | j
          · exact by simpa using ht.symm
          · simp at ht
        subst h3
        exact (show Tryd.prog.wantsStandIn 37 = false by kernel_rfl)⟩)
    (by kernel_rfl)
#print axioms checkBounds_holds
end Go.Proofs.YtfncabcldhemkaaDoor
end
