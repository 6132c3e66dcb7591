/- Part Pag of the proof: a machine with trees for values, its soundness, and walks on it. -/
import Derived.Test.YtfdhkijgolgnfaaDoorPf
import Derived.Test.YtfdhkijgolgnfaaDoorPe
import Derived.Test.YtfdhkijgolgnfaaDoorPu
import Derived.Test.YtfdhkijgolgnfaaDoorTie
import Derived.Test.YtfdhkijgolgnfaaDoorCards
import Derived.SevenTiedAt
section
set_option linter.unusedVariables false
set_option linter.unusedSimpArgs false
namespace Go.Proofs.YtfdhkijgolgnfaaDoor
open Go Go.ChangeShapes Go.WideShapes Go.RowKit Go.Ideal Go.Ideal.Tryd
theorem e7s : Tryd.prog.underlying 44 = some (.slice 5) := by kernel_rfl
theorem g4u : Tryd.prog.underlying 5 = some (.int .u8) := by kernel_rfl
theorem _root_.Go.Ideal.Rd.u8 {H : Type} {e : TypeId × Value → H} {P : Program} {w : World} {t : TypeId} (ht : P.underlying t = some (.int .u8)) : Rd e P w Int t (fun n => [.lit (.int .u8 n)]) (fun n => 0 ≤ n ∧ n ≤ 255) := by
  intro fuel cs d ps h hw
  obtain ⟨n, rfl, h1, h2⟩ := DataW.trod_int ht h
  refine ⟨n, ?_, a92 (by simp only [R]), fun u hu => by simp at hu; subst hu; rfl⟩
  simp only [Lit.wf, decide_eq_true_eq, Bool.and_eq_true] at h2
  first | exact h2 | (obtain ⟨a, b⟩ := h2; simp [IntKind.wrap_u8] at *; omega)
theorem e04 {H : Type} {e : TypeId × Value → H} {w : World} : Rd e Tryd.prog w (List Int) 44 (fun xs => [slU xs]) (fun xs => xs.length ≤ reachBytes ∧ ∀ x ∈ xs, 0 ≤ x ∧ x ≤ 255) :=
  Rd.slice1 e7s (of_decide_eq_true (by kernel_rfl)) (of_decide_eq_true (by kernel_rfl)) (Rd.u8 g4u)
theorem d6t : (Tryd.f10.params.toList.all fun t => Tryd.prog.readableRec t && decide (t < Tryd.prog.types.size)) = true := by kernel_rfl
theorem d69 : Tryd.f10.resultTypes = #[4] := by kernel_rfl
theorem b79 : (Rows.planAgainRow.laid.all fun x => x.2.handleName?.isNone) = true := by kernel_rfl
theorem e0h : d1l [2, 3, 4, 5, 6] Rows.planAgainRow.laid = true := by kernel_rfl
theorem d0j (os : Os) (args : Array Value) : laidMetH Tryd.prog Rows.planAgainRow.laid ((b7z os).forCall (fun _ _ => 0) ⟨#[], args, []⟩).memory := by
  rw [MakeChecks.laidMetH_plain _ _ _ b79]; exact laidMet_of_run' 8 (by kernel_rfl) (by kernel_rfl)
theorem d9j {W : World} (h : laidMetH Tryd.prog Rows.planAgainRow.laid W) : ∃ G bk, Sent5 G bk ∧ ∀ g v, G g = some v → GC W g v ∧ g < W.heap.size := by
  rw [MakeChecks.laidMetH_plain _ _ _ b79] at h
  exact c21 h e0h
set_option maxRecDepth 100000 in
theorem b6h (os : Os) (started : os.Started) (H : Type) (enc : TypeId × Value → H) :
    ReturnsInHanded {} Tryd.checked os 10 .any (fun w args => (Rows.planAgainSpec.pre enc Tryd.prog Tryd.f10 [] false w args ∧ laidMetH Tryd.prog Rows.planAgainRow.laid w) ∧ sizedMet enc Tryd.prog Tryd.f10 (OpenSpec.ofChange Rows.planAgainSpec) false w args)
      (Rows.planAgainSpec.post enc Tryd.prog Tryd.f10 false true false false) := by
  refine returnsInHanded_of_change_and (C := Tryd.checked) (X := fun w _ => laidMetH Tryd.prog Rows.planAgainRow.laid w) (fun _ _ _ hh h => h.of_heap hh) own started (by kernel_rfl) Tryd.func10
    (ChangeSpec.witness_shaped (enc := enc) (C := Tryd.checked) (os := os) (X := fun w _ => laidMetH Tryd.prog Rows.planAgainRow.laid w) false (b7z os) #[.slice none 0 0] 8 rfl (d0n os _) (by kernel_rfl) (by kernel_rfl) (by kernel_rfl) (d0j os _)) ?_
  intro W base args ds gs before hval0 hW _ hwt hL _
  have hval : ∀ (j : Nat) t v, Tryd.f10.params[j]? = some t → args[j]? = some v → Value.okWide Tryd.prog W .any base t v := hval0
  have hW' := hW
  obtain ⟨p, q, hA0, hV0, rfl, hfz, hnd⟩ := hW
  have hA : DataW.TrodAll enc Tryd.prog W 0 (fun _ => true) true Tryd.f10.params.toList args.toList ds p := hA0
  rw [Tryd.params10] at hA hval
  obtain ⟨v0, d0, rfl, rfl, h0⟩ := trodAll_one hA
  obtain ⟨a0, l0, c0, rfl⟩ := okWide_slice e7s (hval 0 44 v0 rfl rfl)
  obtain ⟨rfl, rfl⟩ := trodVars_none (show DataW.TrodVars enc Tryd.prog W (fun _ => true) [] gs q from hV0)
  obtain ⟨fuel, h0⟩ := h0
  have hw0 : (d0.weights Tryd.prog 44).all (· ≤ reachBytes) = true := by
    show (d0.weights Tryd.checked.prog 44).all (· ≤ reachBytes) = true
    have := hwt
    rw [Tryd.params10] at this
    simpa [DataW.weightsEach, Rows.planAgainSpec, ChangeSpec.plain] using this
  obtain ⟨g, ⟨hl, hB⟩, hr, hc⟩ := e04 (e := enc) (w := W) fuel _ d0 p h0 hw0
  obtain ⟨G, bk, hS, hG⟩ := d9j hL
  refine (d3z (c9r (G := G) hS g hB (by unfold reachBytes at hl; omega)) rfl hG (fun i av hi => ?_)).mono fun e W' ⟨he, hb⟩ => ?_
  · cases i with
    | zero => simp at hi; subst hi; obtain ⟨v, hv, hr⟩ := c8p hr; simp [Value.cells] at hv; subst hv; exact hr
    | succ i => simp at hi
  · subst he
    refine ⟨_, rfl, d6z d9u (fun t ht => ?_) d69 Tryd.underlying4 rfl rfl hW' hb⟩
    have h := List.all_eq_true.1 d6t t ht
    simp only [Bool.and_eq_true, decide_eq_true_eq] at h
    exact h
theorem c3c : Rows.PlanAgainSaid :=
  OpenClaim.holds_of_wide 10 Tryd.f10 rfl rfl rfl rfl rfl rfl rfl ⟨rfl, rfl, rfl, rfl, rfl⟩ rfl rfl rfl rfl rfl (by kernel_rfl) Tryd.func10 (by kernel_rfl)
    (of_decide_eq_true (by kernel_rfl)) (by unfold Func.isWrapper; rw [if_neg (of_decide_eq_false (by kernel_rfl))]; exact ⟨rfl, rfl⟩)
    (fun os started H enc _ => b6h os started H enc)
theorem planAgain_holds : Rows.PlanAgainCardSaid :=
  Claim7.holds_tied_plain_at .later [] [.sentinel, .sentinel, .sentinel, .sentinel, .sentinel] true (true, "47fb43701d527ba97f8cf6fd1dc4e72c6e366ffaa96a8b90e592e223bf285dda") true
    c3c (fun _ h => by cases h) (by kernel_rfl) (fun _ h => by cases h) planAgain_row_tie rfl ⟨rfl, rfl⟩ (by kernel_rfl) rfl
    (fun f fn hf hfn => by
      obtain rfl : f = 10 := Option.some.inj ((show Tryd.prog.funcNamed "lodge/lodgelaw14.PlanAgain" = some 10 by kernel_rfl).symm.trans hf) |>.symm
      obtain rfl : fn = Tryd.f10 := (Option.some.inj (Tryd.func10.symm.trans hfn)).symm
      exact ⟨by kernel_rfl, fun j t ht => by
        rw [Tryd.params10] at ht
        have h3 : t = 44 := by
          rcases j with _ | j
          · simpa using ht.symm
          · simp at ht
        subst h3
        exact (show Tryd.prog.wantsStandIn 44 = false by kernel_rfl)⟩)
    (by kernel_rfl)
#print axioms planAgain_holds
end Go.Proofs.YtfdhkijgolgnfaaDoor
end
