/- Part Qbo of the proof: a machine with trees for values, its soundness, and walks on it. -/
import Derived.Test.YtfncabcldhemkaaDoorQag
import Derived.Test.YtfncabcldhemkaaDoorQbk
import Derived.Test.YtfncabcldhemkaaDoorTie
import Derived.Test.YtfncabcldhemkaaDoorCards
import Derived.SevenTiedAt
import Derived.Carry
section
set_option linter.unusedVariables false
set_option linter.unusedSimpArgs false
namespace Go.Proofs.YtfncabcldhemkaaDoor
open Go Go.ChangeShapes Go.WideShapes Go.RowKit Go.Ideal Go.Ideal.Tryd
theorem e9d : (Tryd.f4.params.toList.all fun t => Tryd.prog.readableRec t && decide (t < Tryd.prog.types.size)) = true := by kernel_rfl
theorem e9r : Tryd.f4.resultTypes = #[4] := by kernel_rfl
noncomputable abbrev g0m : List (String × DataW Unit) := Rows.checkTurnedRow.laid.filter fun x => x.2.handleName?.isNone
theorem e6d : (Rows.checkTurnedRow.laid.filter fun x => x.2.handleName?.isSome) = [hX] := by kernel_rfl
theorem g3r : e45 g0m = true := by kernel_rfl
theorem e0o (os : Os) (args : Array Value) : laidMetH Tryd.prog Rows.checkTurnedRow.laid ((a4f os).forCall (fun _ _ => 0) ⟨#[], args, []⟩).memory :=
  laidMetH_of_parts (laidMet_of_run' 8 (by kernel_rfl) (by kernel_rfl)) (by kernel_rfl)
theorem g0l {W : World} (h : laidMetH Tryd.prog Rows.checkTurnedRow.laid W) : ∃ (G : GG) (bk : Nat → Nat × Nat), Sent G bk ∧ Around G bk ∧ ∀ g v, G.at g v → GC G W g v ∧ g < W.heap.size := by
  unfold laidMetH at h
  rw [e6d] at h
  obtain ⟨G, bk, h0, h1, h2⟩ := a7y (hs := [(8, hV)]) h.1 g3r (fun p hp => by
    obtain rfl := List.mem_singleton.1 hp
    exact a4y h.2)
  exact ⟨G, bk, h1, b5d h0, h2⟩
set_option maxRecDepth 100000 in
theorem b5v (os : Os) (started : os.Started) (H : Type) (enc : TypeId × Value → H) :
    ReturnsInHanded {} Tryd.checked os 4 .any (fun w args => (Rows.checkTurnedSpec.pre enc Tryd.prog Tryd.f4 [] false w args ∧ laidMetH Tryd.prog Rows.checkTurnedRow.laid w) ∧ sizedMet enc Tryd.prog Tryd.f4 (OpenSpec.ofChange Rows.checkTurnedSpec) false w args)
      (Rows.checkTurnedSpec.post enc Tryd.prog Tryd.f4 false true false false) := by
  refine returnsInHanded_of_change_and (C := Tryd.checked) (X := fun w _ => laidMetH Tryd.prog Rows.checkTurnedRow.laid w) (fun _ _ _ hh h => h.of_heap hh) own started (by kernel_rfl) Tryd.func4
    (ChangeSpec.witness_shaped (enc := enc) (C := Tryd.checked) (os := os) (X := fun w _ => laidMetH Tryd.prog Rows.checkTurnedRow.laid w) false (a4f os) #[.int .i64 0, .int .i64 0] 8 rfl (b0g os _) (by kernel_rfl) (by kernel_rfl) (by kernel_rfl) (e0o os _)) ?_
  intro W base args ds gs before hval0 hW _ hwt hL _
  have hval : ∀ (j : Nat) t v, Tryd.f4.params[j]? = some t → args[j]? = some v → Value.okWide Tryd.prog W .any base t v := hval0
  have hW' := hW
  obtain ⟨p, q, hA0, hV0, rfl, hfz, hnd⟩ := hW
  have hA : DataW.TrodAll enc Tryd.prog W 0 (fun _ => true) true Tryd.f4.params.toList args.toList ds p := hA0
  rw [Tryd.params4] at hA hval
  obtain ⟨v0, v1, d0, d1, p0, p1, rfl, rfl, rfl, h0, h1⟩ := trodAll_two hA
  obtain ⟨a0, rfl, rfl, rfl, q0⟩ := open_int Tryd.underlying3 (hval 0 3 v0 rfl rfl) h0
  obtain ⟨a1, rfl, rfl, rfl, q1⟩ := open_int Tryd.underlying3 (hval 1 3 v1 rfl rfl) h1
  obtain ⟨rfl, rfl⟩ := trodVars_none (show DataW.TrodVars enc Tryd.prog W (fun _ => true) [] gs q from hV0)
  obtain ⟨G, bk, hS, hAr, hG⟩ := g0l hL
  refine (b5l (d4l (G := G) hS hAr a0 a1) rfl hG (fun i av hi => ?_)).mono fun e W' ⟨he, hb⟩ => ?_
  · rcases i with _ | _ | i
    · simp at hi; subst hi; simp [R]
    · simp at hi; subst hi; simp [R]
    · simp at hi
  · subst he
    refine ⟨_, rfl, b9n d14 (fun t ht => ?_) e9r Tryd.underlying4 rfl rfl hW' hb⟩
    have h := List.all_eq_true.1 e9d t ht
    simp only [Bool.and_eq_true, decide_eq_true_eq] at h
    exact h
theorem c0b : Rows.CheckTurnedSaid :=
  OpenClaim.holds_of_wide 4 Tryd.f4 rfl rfl rfl rfl rfl rfl rfl ⟨rfl, rfl, rfl, rfl, rfl⟩ rfl rfl rfl rfl rfl (by kernel_rfl) Tryd.func4 (by kernel_rfl)
    (of_decide_eq_true (by kernel_rfl)) (by unfold Func.isWrapper; rw [if_neg (of_decide_eq_false (by kernel_rfl))]; exact ⟨rfl, rfl⟩)
    (fun os started H enc _ => b5v os started H enc)
theorem checkTurned_holds : Rows.CheckTurnedCardSaid :=
  Claim7.holds_tied_plain_at .later [] [.handle, .sentinel, .sentinel, .sentinel, .sentinel, .sentinel, .sentinel, .sentinel, .sentinel, .sentinel, .sentinel, .sentinel, .sentinel, .sentinel, .sentinel, .sentinel, .sentinel, .sentinel, .sentinel, .sentinel, .sentinel, .sentinel] true (true, "d33aeda1eb0ca5fb131a203b9d27d98fa0c1848715344d7bc965e387de122db1") true
    c0b (fun _ h => by cases h) (by kernel_rfl) (fun _ h => by cases h) checkTurned_row_tie rfl ⟨rfl, rfl⟩ (by kernel_rfl) rfl
    (fun f fn hf hfn => by
      obtain rfl : f = 4 := Option.some.inj ((show Tryd.prog.funcNamed "lodge/lodgelaw15.CheckTurned" = some 4 by kernel_rfl).symm.trans hf) |>.symm
      obtain rfl : fn = Tryd.f4 := (Option.some.inj (Tryd.func4.symm.trans hfn)).symm
      exact ⟨by kernel_rfl, fun j t ht => by
        rw [Tryd.params4] at ht
        have h3 : t = 3 := by
          rcases j with _ | _ | j
          · exact by simpa using ht.symm
          · exact by simpa using ht.symm
          · simp at ht
        subst h3
        exact (show Tryd.prog.wantsStandIn 3 = false by kernel_rfl)⟩)
    (by kernel_rfl)
#print axioms checkTurned_holds
end Go.Proofs.YtfncabcldhemkaaDoor
end
