/- Part Grb of the proof: a machine with trees for values, its soundness, and walks on it. -/
import Derived.Test.YtfdhkijgolgnfaaDoorPf
import Derived.Test.YtfdhkijgolgnfaaDoorPe
import Derived.Test.YtfdhkijgolgnfaaDoorPj
import Derived.Test.YtfdhkijgolgnfaaDoorTie
import Derived.Test.YtfdhkijgolgnfaaDoorCards
import Derived.SevenTiedAt

section
set_option linter.unusedVariables false
set_option linter.unusedSimpArgs false
namespace Go.Proofs.YtfdhkijgolgnfaaDoor
open Go Go.ChangeShapes Go.WideShapes Go.RowKit Go.Ideal Go.Ideal.Tryd
section
variable {H : Type} {e : TypeId × Value → H} {w : World}
theorem rdInt3 : Rd e Tryd.prog w Int 3 (fun n => [li n]) (fun n => -9223372036854775808 ≤ n ∧ n ≤ 9223372036854775807) := Rd.int Tryd.underlying3
theorem rdBool4 : Rd e Tryd.prog w Bool 4 (fun n => [lb n]) (fun _ => True) := Rd.bool Tryd.underlying4
abbrev okIs (xs : List Int) : Prop := xs.length ≤ reachBytes ∧ ∀ x ∈ xs, -9223372036854775808 ≤ x ∧ x ≤ 9223372036854775807
theorem cells3 : Tryd.prog.cellsOf 3 = 1 := by kernel_rfl
theorem cells4 : Tryd.prog.cellsOf 4 = 1 := by kernel_rfl
theorem cells24 : Tryd.prog.cellsOf 24 = 1 := by kernel_rfl
theorem cells54 : Tryd.prog.cellsOf 54 = 2 := by kernel_rfl
theorem cells56 : Tryd.prog.cellsOf 56 = 3 := by kernel_rfl
theorem cells58 : Tryd.prog.cellsOf 58 = 6 := by kernel_rfl
theorem cells39 : Tryd.prog.cellsOf 39 = 1 := by kernel_rfl
theorem cells41 : Tryd.prog.cellsOf 41 = 2 := by kernel_rfl
theorem rdDesc : Rd e Tryd.prog w (List Int × Bool × Unit) 54 (fun d => [slI d.1] ++ ([lb d.2.1] ++ [])) (fun d => okIs d.1 ∧ True ∧ True) :=
  Rd.struct (l := [(24, 0), (4, 1)]) (by kernel_rfl) cells54 (.cons cells24 rdInts (.cons cells4 rdBool4 .nil))
theorem rdTens : Rd e Tryd.prog w ((List Int × Bool × Unit) × List Int × Unit) 56 (fun t => ([slI t.1.1] ++ ([lb t.1.2.1] ++ [])) ++ ([slI t.2.1] ++ [])) (fun t => (okIs t.1.1 ∧ True ∧ True) ∧ okIs t.2.1 ∧ True) :=
  Rd.struct (l := [(54, 0), (24, 2)]) (by kernel_rfl) cells56 (.cons cells54 rdDesc (.cons cells24 rdInts .nil))
theorem rdNode : Rd e Tryd.prog w Nd 58 encN Nd.fin :=
  (Rd.struct (l := [(3, 0), (24, 1), (24, 2), (56, 3)]) (by kernel_rfl) cells58 (.cons cells3 rdInt3 (.cons cells24 rdInts (.cons cells24 rdInts (.cons cells56 rdTens .nil))))).map
    (fun x => ⟨x.1, x.2.1, x.2.2.1, x.2.2.2.1.1.1, x.2.2.2.1.1.2.1, x.2.2.2.1.2.1⟩) (fun x => rfl)
    (fun x hx => by
      obtain ⟨_, ⟨h1, _⟩, ⟨h2, _⟩, ⟨⟨⟨h3, _⟩, _⟩, ⟨h4, _⟩, _⟩, _⟩ := hx
      unfold reachBytes at *
      exact ⟨Nat.lt_of_le_of_lt h1 (by decide), Nat.lt_of_le_of_lt h2 (by decide), Nat.lt_of_le_of_lt h3 (by decide), Nat.lt_of_le_of_lt h4 (by decide)⟩)
theorem rdNodes : Rd e Tryd.prog w (List Nd) 39 (fun xs => [slN xs]) (fun xs => xs.length ≤ reachBytes ∧ ∀ x ∈ xs, x.fin) :=
  Rd.slice Tryd.underlying39 (of_decide_eq_true (by kernel_rfl)) rdNode (fun x => by rw [cells58]; rfl)
theorem str41 : structB Tryd.prog 41 [(39, 0), (3, 1)] = true := by kernel_rfl
theorem rdGraph : Rd e Tryd.prog w Gr 41 (fun g => [slN g.nodes, li g.out]) (fun g => g.nodes.length ≤ reachBytes ∧ ∀ x ∈ g.nodes, x.fin) :=
  (Rd.struct (l := [(39, 0), (3, 1)]) str41 cells41 (.cons cells39 rdNodes (.cons cells3 rdInt3 .nil))).map (fun x => ⟨x.1, x.2.1⟩) (fun x => rfl) (fun x hx => hx.1)
end
theorem parRec5 : (Tryd.f5.params.toList.all fun t => Tryd.prog.readableRec t && decide (t < Tryd.prog.types.size)) = true := by kernel_rfl
theorem result5 : Tryd.f5.resultTypes = #[4] := by kernel_rfl
theorem plainLaid5 : (Rows.graphBytesRow.laid.all fun x => x.2.handleName?.isNone) = true := by kernel_rfl
theorem sents5 : sentB Rows.graphBytesRow.laid = true := by kernel_rfl
theorem laidH_met5 (os : Os) (args : Array Value) : laidMetH Tryd.prog Rows.graphBytesRow.laid ((laidWorld os).forCall (fun _ _ => 0) ⟨#[], args, []⟩).memory := by
  rw [MakeChecks.laidMetH_plain _ _ _ plainLaid5]; exact laidMet_of_run' 8 (by kernel_rfl) (by kernel_rfl)
theorem sentW5 {W : World} (h : laidMetH Tryd.prog Rows.graphBytesRow.laid W) : ∃ G bk, Sent G bk ∧ ∀ g v, G g = some v → GC W g v ∧ g < W.heap.size := by
  rw [MakeChecks.laidMetH_plain _ _ _ plainLaid5] at h
  exact sent_of_laid h sents5
set_option maxRecDepth 100000 in
theorem graphBytes_lifted (os : Os) (started : os.Started) (H : Type) (enc : TypeId × Value → H) :
    ReturnsInHanded {} Tryd.checked os 5 .any (fun w args => (Rows.graphBytesSpec.pre enc Tryd.prog Tryd.f5 [] false w args ∧ laidMetH Tryd.prog Rows.graphBytesRow.laid w) ∧ sizedMet enc Tryd.prog Tryd.f5 (OpenSpec.ofChange Rows.graphBytesSpec) false w args)
      (Rows.graphBytesSpec.post enc Tryd.prog Tryd.f5 false true false false) := by
  refine returnsInHanded_of_change_and (C := Tryd.checked) (X := fun w _ => laidMetH Tryd.prog Rows.graphBytesRow.laid w) (fun _ _ _ hh h => h.of_heap hh) own started (by kernel_rfl) Tryd.func5
    (ChangeSpec.witness_shaped (enc := enc) (C := Tryd.checked) (os := os) (X := fun w _ => laidMetH Tryd.prog Rows.graphBytesRow.laid w) false (laidWorld os) #[.agg #[.slice none 0 0, .int .i64 0]] 8 rfl (laid_shaped os _) (by kernel_rfl) (by kernel_rfl) (by kernel_rfl) (laidH_met5 os _)) ?_
  intro W base args ds gs before hval0 hW _ hwt hL _
  have hval : ∀ (j : Nat) t v, Tryd.f5.params[j]? = some t → args[j]? = some v → Value.okWide Tryd.prog W .any base t v := hval0
  have hW' := hW
  obtain ⟨p, q, hA0, hV0, rfl, hfz, hnd⟩ := hW
  have hA : DataW.TrodAll enc Tryd.prog W 0 (fun _ => true) true Tryd.f5.params.toList args.toList ds p := hA0
  rw [Tryd.params5] at hA hval
  obtain ⟨v0, d0, rfl, rfl, h0⟩ := trodAll_one hA
  have hok0 := hval 0 41 v0 rfl rfl
  obtain ⟨rfl, rfl⟩ := trodVars_none (show DataW.TrodVars enc Tryd.prog W (fun _ => true) [] gs q from hV0)
  obtain ⟨fuel, h0⟩ := h0
  have hw0 : (d0.weights Tryd.prog 41).all (· ≤ reachBytes) = true := by
    show (d0.weights Tryd.checked.prog 41).all (· ≤ reachBytes) = true
    have := hwt
    rw [Tryd.params5] at this
    simpa [DataW.weightsEach, Rows.graphBytesSpec, ChangeSpec.plain] using this
  obtain ⟨g, ⟨hl, hok⟩, hr, hc⟩ := rdGraph (e := enc) (w := W) fuel _ d0 p h0 hw0
  obtain ⟨G, bk, hS, hG⟩ := sentW5 hL
  refine (law_calls (graphBytes5 (G := G) hS g (by unfold reachBytes at hl; omega) hok) rfl hG (fun i av hi => ?_)).mono fun e W' ⟨he, hb⟩ => ?_
  · cases i with
    | zero => simp at hi; subst hi; exact R_agg_of str41 hok0 hr hc
    | succ i => simp at hi
  · subst he
    refine ⟨_, rfl, law_post laidOut (fun t ht => ?_) result5 Tryd.underlying4 rfl rfl hW' hb⟩
    have h := List.all_eq_true.1 parRec5 t ht
    simp only [Bool.and_eq_true, decide_eq_true_eq] at h
    exact h
theorem graphBytes_row : Rows.GraphBytesSaid :=
  OpenClaim.holds_of_wide 5 Tryd.f5 rfl rfl rfl rfl rfl rfl rfl ⟨rfl, rfl, rfl, rfl, rfl⟩ rfl rfl rfl rfl rfl (by kernel_rfl) Tryd.func5 (by kernel_rfl)
    (of_decide_eq_true (by kernel_rfl)) (by unfold Func.isWrapper; rw [if_neg (of_decide_eq_false (by kernel_rfl))]; exact ⟨rfl, rfl⟩)
    (fun os started H enc _ => graphBytes_lifted os started H enc)
theorem graphBytes_holds : Rows.GraphBytesCardSaid :=
  Claim7.holds_tied_plain_at .later [] [.sentinel, .sentinel, .sentinel, .sentinel, .sentinel, .sentinel, .sentinel, .sentinel, .sentinel, .sentinel, .sentinel, .sentinel, .sentinel, .sentinel, .sentinel, .sentinel, .sentinel, .sentinel, .sentinel, .sentinel, .sentinel] true (true, "47fb43701d527ba97f8cf6fd1dc4e72c6e366ffaa96a8b90e592e223bf285dda") true
    graphBytes_row (fun _ h => by cases h) (by kernel_rfl) (fun _ h => by cases h) graphBytes_row_tie rfl ⟨rfl, rfl⟩ (by kernel_rfl) rfl
    (fun f fn hf hfn => by
      obtain rfl : f = 5 := Option.some.inj ((show Tryd.prog.funcNamed "lodge/lodgelaw17.GraphBytes" = some 5 by kernel_rfl).symm.trans hf) |>.symm
      obtain rfl : fn = Tryd.f5 := (Option.some.inj (Tryd.func5.symm.trans hfn)).symm
      exact ⟨by kernel_rfl, fun j t ht => by
        rw [Tryd.params5] at ht
        have h3 : t = 41 := by
          rcases j with _ | j
          · simpa using ht.symm
          · simp at ht
        subst h3
        exact (show Tryd.prog.wantsStandIn 41 = false by kernel_rfl)⟩)
    (by kernel_rfl)
#print axioms graphBytes_holds
end Go.Proofs.YtfdhkijgolgnfaaDoor
end
