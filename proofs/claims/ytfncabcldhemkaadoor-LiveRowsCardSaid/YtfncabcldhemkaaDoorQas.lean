/- Part Qas of the proof: a machine with trees for values, its soundness, and walks on it. -/
import Derived.Test.YtfncabcldhemkaaDoorQah
import Derived.Test.YtfncabcldhemkaaDoorQap
import Derived.Test.YtfncabcldhemkaaDoorQaq
import Derived.Test.YtfncabcldhemkaaDoorTie
import Derived.Test.YtfncabcldhemkaaDoorCards
import Derived.SevenTiedAt
import Derived.Carry
set_option linter.unusedVariables false
set_option linter.unusedSimpArgs false
section
namespace Go.Proofs.YtfncabcldhemkaaDoor
open Go Go.ChangeShapes Go.WideShapes Go.RowKit Go.Ideal Go.Ideal.Tryd
theorem d28 : (Tryd.f8.params.toList.all fun t => Tryd.prog.readableRec t && decide (t < Tryd.prog.types.size)) = true := by kernel_rfl
theorem d3h : Tryd.f8.resultTypes = #[4] := by kernel_rfl
noncomputable abbrev e2v : List (String × DataW Unit) := Rows.liveRowsRow.laid.filter fun x => x.2.handleName?.isNone
theorem c8y : (Rows.liveRowsRow.laid.filter fun x => x.2.handleName?.isSome) = [hX] := by kernel_rfl
theorem e32 : b8z [0, 1, 2, 3, 4, 6, 7] e2v = true := by kernel_rfl
theorem c27 (os : Os) (args : Array Value) : laidMetH Tryd.prog Rows.liveRowsRow.laid ((a7u os).forCall (fun _ _ => 0) ⟨#[], args, []⟩).memory :=
 laidMetH_of_parts (laidMet_of_run' 8 (by kernel_rfl) (by kernel_rfl)) (by kernel_rfl)
theorem e30 {W : World} (h : laidMetH Tryd.prog Rows.liveRowsRow.laid W) : ∃ (G : GG) (bk : Nat -> Nat × Nat), SentO G bk /\ Around G bk /\ ∀ g v, G.at g v -> GC G W g v /\ g < W.heap.size := by
 unfold laidMetH at h
 rw [c8y] at h
 obtain ⟨G, bk, h0, h1, h2⟩ := a98 (hs := [(8, hV)]) h.1 e32 (fun p hp => by
  obtain rfl := List.mem_singleton.1 hp
  exact a8v h.2)
 exact ⟨G, bk, h1, b7b h0, h2⟩
set_option maxRecDepth 100000 in
theorem b2m (os : Os) (started : os.Started) (H : Type) (enc : TypeId × Value -> H) :
  ReturnsInHanded {} Tryd.checked os 8 .any (fun w args => (Rows.liveRowsSpec.pre enc Tryd.prog Tryd.f8 [] false w args /\ laidMetH Tryd.prog Rows.liveRowsRow.laid w) /\ sizedMet enc Tryd.prog Tryd.f8 (OpenSpec.ofChange Rows.liveRowsSpec) false w args)
   (Rows.liveRowsSpec.post enc Tryd.prog Tryd.f8 false true false false) := by
 refine returnsInHanded_of_change_and (C := Tryd.checked) (X := fun w _ => laidMetH Tryd.prog Rows.liveRowsRow.laid w) (fun _ _ _ hh h => h.of_heap hh) own started (by kernel_rfl) Tryd.func8
  (ChangeSpec.witness_shaped (enc := enc) (C := Tryd.checked) (os := os) (X := fun w _ => laidMetH Tryd.prog Rows.liveRowsRow.laid w) false (a7u os) #[.int .i64 0, .int .i64 0, .bool false] 8 rfl (b2l os _) (by kernel_rfl) (by kernel_rfl) (by kernel_rfl) (c27 os _)) ?_
 intro W base args ds gs before hval0 hW _ hwt hL _
 have hval : ∀ (j : Nat) t v, Tryd.f8.params[j]? = some t -> args[j]? = some v -> Value.okWide Tryd.prog W .any base t v := hval0
 have hW' := hW
 obtain ⟨p, q, hA0, hV0, rfl, hfz, hnd⟩ := hW
 have hA : DataW.TrodAll enc Tryd.prog W 0 (fun _ => true) true Tryd.f8.params.toList args.toList ds p := hA0
 rw [Tryd.params8] at hA hval
 obtain ⟨v0, v1, v2, d0, d1, d2, p0, p1, p2, rfl, rfl, rfl, h0, h1, h2⟩ := trodAll_three hA
 obtain ⟨a0, rfl, rfl, rfl, q0⟩ := open_int Tryd.underlying3 (hval 0 3 v0 rfl rfl) h0
 obtain ⟨a1, rfl, rfl, rfl, q1⟩ := open_int Tryd.underlying3 (hval 1 3 v1 rfl rfl) h1
 obtain ⟨a2, rfl, rfl, rfl⟩ := open_bool Tryd.underlying4 (hval 2 4 v2 rfl rfl) h2
 obtain ⟨rfl, rfl⟩ := trodVars_none (show DataW.TrodVars enc Tryd.prog W (fun _ => true) [] gs q from hV0)
 obtain ⟨G, bk, hS, hAr, hG⟩ := e30 hL
 refine (b7x (e08 (G := G) hS hAr a0 a1 a2) rfl hG (fun i av hi => ?_)).mono fun e W' ⟨he, hb⟩ => ?_
 ·rcases i with _ | _ | _ | i
  ·simp at hi; subst hi; simp [R]
  ·simp at hi; subst hi; simp [R]
  ·simp at hi; subst hi; simp [R]
  ·simp at hi
 ·subst he
  refine ⟨_, rfl, c12 c5i (fun t ht => ?_) d3h Tryd.underlying4 rfl rfl hW' hb⟩
  have h := List.all_eq_true.1 d28 t ht
  simp only [Bool.and_eq_true, decide_eq_true_eq] at h
  exact h
theorem b7z : Rows.LiveRowsSaid :=
 OpenClaim.holds_of_wide 8 Tryd.f8 rfl rfl rfl rfl rfl rfl rfl ⟨rfl, rfl, rfl, rfl, rfl⟩ rfl rfl rfl rfl rfl (by kernel_rfl) Tryd.func8 (by kernel_rfl)
  (of_decide_eq_true (by kernel_rfl)) (by unfold Func.isWrapper; rw [if_neg (of_decide_eq_false (by kernel_rfl))]; exact ⟨rfl, rfl⟩)
  (fun os started H enc _ => b2m os started H enc)
theorem liveRows_holds : Rows.LiveRowsCardSaid :=
 Claim7.holds_tied_plain_at .later [] [.handle, .sentinel, .sentinel, .sentinel, .sentinel, .sentinel, .sentinel, .sentinel] true (true, "d33aeda1eb0ca5fb131a203b9d27d98fa0c1848715344d7bc965e387de122db1") true
  b7z (fun _ h => by cases h) (by kernel_rfl) (fun _ h => by cases h) liveRows_row_tie rfl ⟨rfl, rfl⟩ (by kernel_rfl) rfl
  (fun f fn hf hfn => by
   obtain rfl : f = 8 := Option.some.inj ((show Tryd.prog.funcNamed "lodge/lodgelaw22.LiveRows" = some 8 by kernel_rfl).symm.trans hf) |>.symm
   obtain rfl : fn = Tryd.f8 := (Option.some.inj (Tryd.func8.symm.trans hfn)).symm
   exact ⟨by kernel_rfl, fun j t ht => by
    rw [Tryd.params8] at ht
    have h3 : t = 3 \/ t = 4 := by
     rcases j with _ | _ | _ | j
     ·exact .inl (by simpa using ht.symm)
     ·exact .inl (by simpa using ht.symm)
     ·exact .inr ((by simpa using ht.symm))
     ·simp at ht
    rcases h3 with rfl | rfl
    ·exact (show Tryd.prog.wantsStandIn 3 = false by kernel_rfl)
    ·exact (show Tryd.prog.wantsStandIn 4 = false by kernel_rfl)⟩)
  (by kernel_rfl)
#print axioms liveRows_holds
end Go.Proofs.YtfncabcldhemkaaDoor
end
