/- Part Qat of the proof: a machine with trees for values, its soundness, and walks on it. -/
import Derived.Test.YtfncabcldhemkaaDoorQah
import Derived.Test.YtfncabcldhemkaaDoorQar
import Derived.Test.YtfncabcldhemkaaDoorQaq
import Derived.Test.YtfncabcldhemkaaDoorTie
import Derived.Test.YtfncabcldhemkaaDoorCards
import Derived.SevenTiedAt
import Derived.Carry
set_option linter.unusedVariables false
set_option linter.unusedSimpArgs false
section
namespace Go.Proofs.YtfncabcldhemkaaDoor
open Go Go.ChangeShapes Go.WideShapes Go.RowKit Go.Ideal Go.Ideal.Tryd
theorem d29 : (Tryd.f9.params.toList.all fun t => Tryd.prog.readableRec t && decide (t < Tryd.prog.types.size)) = true := by kernel_rfl
theorem d3i : Tryd.f9.resultTypes = #[4] := by kernel_rfl
noncomputable abbrev e2w : List (String × DataW Unit) := Rows.livePeaksRow.laid.filter fun x => x.2.handleName?.isNone
theorem c8z : (Rows.livePeaksRow.laid.filter fun x => x.2.handleName?.isSome) = [hX] := by kernel_rfl
theorem e33 : b8z [0, 1, 2, 3, 4, 6, 7] e2w = true := by kernel_rfl
theorem c28 (os : Os) (args : Array Value) : laidMetH Tryd.prog Rows.livePeaksRow.laid ((a7u os).forCall (fun _ _ => 0) ⟨#[], args, []⟩).memory :=
 laidMetH_of_parts (laidMet_of_run' 8 (by kernel_rfl) (by kernel_rfl)) (by kernel_rfl)
theorem e31 {W : World} (h : laidMetH Tryd.prog Rows.livePeaksRow.laid W) : ∃ (G : GG) (bk : Nat -> Nat × Nat), SentO G bk /\ Around G bk /\ ∀ g v, G.at g v -> GC G W g v /\ g < W.heap.size := by
 unfold laidMetH at h
 rw [c8z] at h
 obtain ⟨G, bk, h0, h1, h2⟩ := a98 (hs := [(8, hV)]) h.1 e33 (fun p hp => by
  obtain rfl := List.mem_singleton.1 hp
  exact a8v h.2)
 exact ⟨G, bk, h1, b7b h0, h2⟩
set_option maxRecDepth 100000 in
theorem b1t (os : Os) (started : os.Started) (H : Type) (enc : TypeId × Value -> H) :
  ReturnsInHanded {} Tryd.checked os 9 .any (fun w args => (Rows.livePeaksSpec.pre enc Tryd.prog Tryd.f9 [] false w args /\ laidMetH Tryd.prog Rows.livePeaksRow.laid w) /\ sizedMet enc Tryd.prog Tryd.f9 (OpenSpec.ofChange Rows.livePeaksSpec) false w args)
   (Rows.livePeaksSpec.post enc Tryd.prog Tryd.f9 false true false false) := by
 refine returnsInHanded_of_change_and (C := Tryd.checked) (X := fun w _ => laidMetH Tryd.prog Rows.livePeaksRow.laid w) (fun _ _ _ hh h => h.of_heap hh) own started (by kernel_rfl) Tryd.func9
  (ChangeSpec.witness_shaped (enc := enc) (C := Tryd.checked) (os := os) (X := fun w _ => laidMetH Tryd.prog Rows.livePeaksRow.laid w) false (a7u os) #[.slice none 0 0, .bool false] 8 rfl (b2l os _) (by kernel_rfl) (by kernel_rfl) (by kernel_rfl) (c28 os _)) ?_
 intro W base args ds gs before hval0 hW _ hwt hL _
 have hval : ∀ (j : Nat) t v, Tryd.f9.params[j]? = some t -> args[j]? = some v -> Value.okWide Tryd.prog W .any base t v := hval0
 have hW' := hW
 obtain ⟨p, q, hA0, hV0, rfl, hfz, hnd⟩ := hW
 have hA : DataW.TrodAll enc Tryd.prog W 0 (fun _ => true) true Tryd.f9.params.toList args.toList ds p := hA0
 rw [Tryd.params9] at hA hval
 obtain ⟨v0, v1, d0, d1, p0, p1, rfl, rfl, rfl, h0, h1⟩ := trodAll_two hA
 obtain ⟨a0', l0', c0', rfl⟩ := okWide_slice (show Tryd.prog.underlying 24 = some (.slice 3) by kernel_rfl) (hval 0 24 v0 rfl rfl)
 obtain ⟨a1, rfl, rfl, rfl⟩ := open_bool Tryd.underlying4 (hval 1 4 v1 rfl rfl) h1
 obtain ⟨rfl, rfl⟩ := trodVars_none (show DataW.TrodVars enc Tryd.prog W (fun _ => true) [] gs q from hV0)
 obtain ⟨fuel0, h0⟩ := h0
 have hww : ((d0.weights Tryd.checked.prog 24).all (· <= reachBytes) && ((DataW.lit (H := H) (Lit.bool a1)).weights Tryd.checked.prog 4).all (· <= reachBytes)) = true := by
  have := hwt
  rw [Tryd.params9] at this
  simpa [DataW.weightsEach, Rows.livePeaksSpec, ChangeSpec.plain] using this
 simp only [Bool.and_eq_true] at hww
 obtain ⟨a0, q0, r0, c0⟩ := e3a (e := enc) (w := W) fuel0 _ d0 p0 h0 hww.1
 obtain ⟨G, bk, hS, hAr, hG⟩ := e31 hL
 refine (b7x (d2u (G := G) hS hAr a0 a1 (by have := q0.1; unfold reachBytes at this; omega)) rfl hG (fun i av hi => ?_)).mono fun e W' ⟨he, hb⟩ => ?_
 ·rcases i with _ | _ | i
  ·simp at hi; subst hi; obtain ⟨v, hv, hr⟩ := b66 r0; simp [Value.cells] at hv; subst hv; exact hr
  ·simp at hi; subst hi; simp [R]
  ·simp at hi
 ·subst he
  refine ⟨_, rfl, c12 c5i (fun t ht => ?_) d3i Tryd.underlying4 rfl rfl hW' hb⟩
  have h := List.all_eq_true.1 d29 t ht
  simp only [Bool.and_eq_true, decide_eq_true_eq] at h
  exact h
theorem b5x : Rows.LivePeaksSaid :=
 OpenClaim.holds_of_wide 9 Tryd.f9 rfl rfl rfl rfl rfl rfl rfl ⟨rfl, rfl, rfl, rfl, rfl⟩ rfl rfl rfl rfl rfl (by kernel_rfl) Tryd.func9 (by kernel_rfl)
  (of_decide_eq_true (by kernel_rfl)) (by unfold Func.isWrapper; rw [if_neg (of_decide_eq_false (by kernel_rfl))]; exact ⟨rfl, rfl⟩)
  (fun os started H enc _ => b1t os started H enc)
theorem livePeaks_holds : Rows.LivePeaksCardSaid :=
 Claim7.holds_tied_plain_at .later [] [.handle, .sentinel, .sentinel, .sentinel, .sentinel, .sentinel, .sentinel, .sentinel] true (true, "d33aeda1eb0ca5fb131a203b9d27d98fa0c1848715344d7bc965e387de122db1") true
  b5x (fun _ h => by cases h) (by kernel_rfl) (fun _ h => by cases h) livePeaks_row_tie rfl ⟨rfl, rfl⟩ (by kernel_rfl) rfl
  (fun f fn hf hfn => by
   obtain rfl : f = 9 := Option.some.inj ((show Tryd.prog.funcNamed "lodge/lodgelaw22.LivePeaks" = some 9 by kernel_rfl).symm.trans hf) |>.symm
   obtain rfl : fn = Tryd.f9 := (Option.some.inj (Tryd.func9.symm.trans hfn)).symm
   exact ⟨by kernel_rfl, fun j t ht => by
    rw [Tryd.params9] at ht
    have h3 : t = 4 \/ t = 24 := by
     rcases j with _ | _ | j
     ·exact .inr ((by simpa using ht.symm))
     ·exact .inl (by simpa using ht.symm)
     ·simp at ht
    rcases h3 with rfl | rfl
    ·exact (show Tryd.prog.wantsStandIn 4 = false by kernel_rfl)
    ·exact (show Tryd.prog.wantsStandIn 24 = false by kernel_rfl)⟩)
  (by kernel_rfl)
#print axioms livePeaks_holds
end Go.Proofs.YtfncabcldhemkaaDoor
end
