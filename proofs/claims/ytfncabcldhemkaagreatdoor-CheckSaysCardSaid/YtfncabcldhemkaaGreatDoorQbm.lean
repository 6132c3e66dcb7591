/- Part Qbm of the proof: a machine with trees for values, its soundness, and walks on it. -/
import Derived.Test.YtfncabcldhemkaaGreatDoorQah
import Derived.Test.YtfncabcldhemkaaGreatDoorQbk
import Derived.Test.YtfncabcldhemkaaGreatDoorQbj
import Derived.Test.YtfncabcldhemkaaGreatDoorTie
import Derived.Test.YtfncabcldhemkaaGreatDoorCards
import Derived.SevenTiedAt
import Derived.Carry
set_option linter.unusedVariables false
set_option linter.unusedSimpArgs false
section
namespace Go.Proofs.YtfncabcldhemkaaGreatDoor
open Go Go.ChangeShapes Go.WideShapes Go.RowKit Go.Ideal Go.Ideal.Tryz
theorem d9a : (Tryz.f4.params.toList.all fun t => Tryz.prog.readableRec t && decide (t < Tryz.prog.types.size)) = true := by kernel_rfl
theorem d9m : Tryz.f4.resultTypes = #[4] := by kernel_rfl
noncomputable abbrev e82 : List (String × DataW Unit) := Rows.checkSaysRow.laid.filter fun x => x.2.handleName?.isNone
theorem d42 : (Rows.checkSaysRow.laid.filter fun x => x.2.handleName?.isSome) = [hX] := by kernel_rfl
theorem e98 : d90 e82 = true := by kernel_rfl
theorem c8w (os : Os) (args : Array Value) : laidMetH Tryz.prog Rows.checkSaysRow.laid ((b1g os).forCall (fun _ _ => 0) ⟨#[], args, []⟩).memory :=
 laidMetH_of_parts (laidMet_of_run' 8 (by kernel_rfl) (by kernel_rfl)) (by kernel_rfl)
theorem e96 {W : World} (h : laidMetH Tryz.prog Rows.checkSaysRow.laid W) : ∃ (G : GG) (bk : Nat -> Nat × Nat), Sent G bk /\ Around G bk /\ ∀ g v, G.at g v -> GC G W g v /\ g < W.heap.size := by
 unfold laidMetH at h
 rw [d42] at h
 obtain ⟨G, bk, h0, h1, h2⟩ := b6x (hs := [(9, hV)]) h.1 e98 (fun p hp => by
  obtain rfl := List.mem_singleton.1 hp
  exact b24 h.2)
 exact ⟨G, bk, h1, c2y h0, h2⟩
set_option maxRecDepth 100000 in
theorem b7b (os : Os) (started : os.Started) (H : Type) (enc : TypeId × Value -> H) :
  ReturnsInHanded {} Tryz.checked os 4 .any (fun w args => (Rows.checkSaysSpec.pre enc Tryz.prog Tryz.f4 [] false w args /\ laidMetH Tryz.prog Rows.checkSaysRow.laid w) /\ sizedMet enc Tryz.prog Tryz.f4 (OpenSpec.ofChange Rows.checkSaysSpec) false w args)
   (Rows.checkSaysSpec.post enc Tryz.prog Tryz.f4 false true false false) := by
 refine returnsInHanded_of_change_and (C := Tryz.checked) (X := fun w _ => laidMetH Tryz.prog Rows.checkSaysRow.laid w) (fun _ _ _ hh h => h.of_heap hh) own started (by kernel_rfl) Tryz.func4
  (ChangeSpec.witness_shaped (enc := enc) (C := Tryz.checked) (os := os) (X := fun w _ => laidMetH Tryz.prog Rows.checkSaysRow.laid w) false (b1g os) #[.agg #[.int .i64 0, .slice none 0 0, .slice none 0 0, .slice none 0 0, .slice none 0 0, .int .i64 0, .int .i64 0]] 8 rfl (b8i os _) (by kernel_rfl) (by kernel_rfl) (by kernel_rfl) (c8w os _)) ?_
 intro W base args ds gs before hval0 hW _ hwt hL _
 have hval : ∀ (j : Nat) t v, Tryz.f4.params[j]? = some t -> args[j]? = some v -> Value.okWide Tryz.prog W .any base t v := hval0
 have hW' := hW
 obtain ⟨p, q, hA0, hV0, rfl, hfz, hnd⟩ := hW
 have hA : DataW.TrodAll enc Tryz.prog W 0 (fun _ => true) true Tryz.f4.params.toList args.toList ds p := hA0
 rw [Tryz.params4] at hA hval
 obtain ⟨v0, d0, rfl, rfl, h0⟩ := trodAll_one hA
 have hok0 := hval 0 27 v0 rfl rfl
 obtain ⟨rfl, rfl⟩ := trodVars_none (show DataW.TrodVars enc Tryz.prog W (fun _ => true) [] gs q from hV0)
 obtain ⟨fuel0, h0⟩ := h0
 have hww : (d0.weights Tryz.checked.prog 27).all (· <= reachBytes) = true := by
  have := hwt
  rw [Tryz.params4] at this
  simpa [DataW.weightsEach, Rows.checkSaysSpec, ChangeSpec.plain] using this
 obtain ⟨a0, q0, r0, c0⟩ := d62 (e := enc) (w := W) fuel0 _ d0 p h0 hww
 obtain ⟨G, bk, hS, hAr, hG⟩ := e96 hL
 refine (c3n (c8i (G := G) hS hAr a0 q0) rfl hG (fun i av hi => ?_)).mono fun e W' ⟨he, hb⟩ => ?_
 ·rcases i with _ | i
  ·simp at hi; subst hi; exact c69 c62 hok0 r0 c0
  ·simp at hi
 ·subst he
  refine ⟨_, rfl, c7n d1m (fun t ht => ?_) d9m Tryz.underlying4 rfl rfl hW' hb⟩
  have h := List.all_eq_true.1 d9a t ht
  simp only [Bool.and_eq_true, decide_eq_true_eq] at h
  exact h
theorem c1c : Rows.CheckSaysSaid :=
 OpenClaim.holds_of_wide 4 Tryz.f4 rfl rfl rfl rfl rfl rfl rfl ⟨rfl, rfl, rfl, rfl, rfl⟩ rfl rfl rfl rfl rfl (by kernel_rfl) Tryz.func4 (by kernel_rfl)
  (of_decide_eq_true (by kernel_rfl)) (by unfold Func.isWrapper; rw [if_neg (of_decide_eq_false (by kernel_rfl))]; exact ⟨rfl, rfl⟩)
  (fun os started H enc _ => b7b os started H enc)
theorem checkSays_holds : Rows.CheckSaysCardSaid :=
 Claim7.holds_tied_plain_at .later [] [.handle, .sentinel, .sentinel, .sentinel, .sentinel, .sentinel, .sentinel, .sentinel, .sentinel, .sentinel, .sentinel, .sentinel, .sentinel, .sentinel, .sentinel, .sentinel, .sentinel, .sentinel, .sentinel, .sentinel, .sentinel, .sentinel] true (true, "f7f4ea558fe5f9f6f8b8e16748a41d22cc99cb4f098a2ed6ca4189ee9083e893") true
  c1c (fun _ h => by cases h) (by kernel_rfl) (fun _ h => by cases h) checkSays_row_tie rfl ⟨rfl, rfl⟩ (by kernel_rfl) rfl
  (fun f fn hf hfn => by
   obtain rfl : f = 4 := Option.some.inj ((show Tryz.prog.funcNamed "lodge/lodgelaw15.CheckSays" = some 4 by kernel_rfl).symm.trans hf) |>.symm
   obtain rfl : fn = Tryz.f4 := (Option.some.inj (Tryz.func4.symm.trans hfn)).symm
   exact ⟨by kernel_rfl, fun j t ht => by
    rw [Tryz.params4] at ht
    have h3 : t = 27 := by
     rcases j with _ | j
     ·exact by simpa using ht.symm
     ·simp at ht
    subst h3
    exact (show Tryz.prog.wantsStandIn 27 = false by kernel_rfl)⟩)
  (by kernel_rfl)
#print axioms checkSays_holds
end Go.Proofs.YtfncabcldhemkaaGreatDoor
end
