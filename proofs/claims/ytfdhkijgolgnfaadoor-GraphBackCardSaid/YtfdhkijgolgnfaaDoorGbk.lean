/- Part Gbk of the proof: a machine with trees for values, its soundness, and walks on it. -/
import Derived.Test.YtfdhkijgolgnfaaDoorPf
import Derived.Test.YtfdhkijgolgnfaaDoorPe
import Derived.Test.YtfdhkijgolgnfaaDoorPo
import Derived.Test.YtfdhkijgolgnfaaDoorTie
import Derived.Test.YtfdhkijgolgnfaaDoorCards
import Derived.SevenTiedAt

section
set_option linter.unusedVariables false
set_option linter.unusedSimpArgs false
namespace Go.Proofs.YtfdhkijgolgnfaaDoor
open Go Go.ChangeShapes Go.WideShapes Go.RowKit Go.Ideal Go.Ideal.Tryd
section
variable {H : Type} {e : TypeId × Value → H} {w : World}
theorem rdInt3 : Rd e Tryd.prog w Int 3 (fun n => [li n]) (fun n => -9223372036854775808 ≤ n ∧ n ≤ 9223372036854775807) := Rd.int Tryd.underlying3
theorem rdBool4 : Rd e Tryd.prog w Bool 4 (fun n => [lb n]) (fun _ => True) := Rd.bool Tryd.underlying4
abbrev okIs (xs : List Int) : Prop := xs.length ≤ reachBytes ∧ ∀ x ∈ xs, -9223372036854775808 ≤ x ∧ x ≤ 9223372036854775807
theorem cells3 : Tryd.prog.cellsOf 3 = 1 := by kernel_rfl
theorem cells4 : Tryd.prog.cellsOf 4 = 1 := by kernel_rfl
theorem cells24 : Tryd.prog.cellsOf 24 = 1 := by kernel_rfl
theorem cells54 : Tryd.prog.cellsOf 54 = 2 := by kernel_rfl
theorem cells56 : Tryd.prog.cellsOf 56 = 3 := by kernel_rfl
theorem cells58 : Tryd.prog.cellsOf 58 = 6 := by kernel_rfl
theorem cells39 : Tryd.prog.cellsOf 39 = 1 := by kernel_rfl
theorem cells41 : Tryd.prog.cellsOf 41 = 2 := by kernel_rfl
theorem rdDesc : Rd e Tryd.prog w (List Int × Bool × Unit) 54 (fun d => [slI d.1] ++ ([lb d.2.1] ++ [])) (fun d => okIs d.1 ∧ True ∧ True) :=
  Rd.struct (l := [(24, 0), (4, 1)]) (by kernel_rfl) cells54 (.cons cells24 rdInts (.cons cells4 rdBool4 .nil))
theorem rdTens : Rd e Tryd.prog w ((List Int × Bool × Unit) × List Int × Unit) 56 (fun t => ([slI t.1.1] ++ ([lb t.1.2.1] ++ [])) ++ ([slI t.2.1] ++ [])) (fun t => (okIs t.1.1 ∧ True ∧ True) ∧ okIs t.2.1 ∧ True) :=
  Rd.struct (l := [(54, 0), (24, 2)]) (by kernel_rfl) cells56 (.cons cells54 rdDesc (.cons cells24 rdInts .nil))
theorem rdNode : Rd e Tryd.prog w Nd 58 encN Nd.fin :=
  (Rd.struct (l := [(3, 0), (24, 1), (24, 2), (56, 3)]) (by kernel_rfl) cells58 (.cons cells3 rdInt3 (.cons cells24 rdInts (.cons cells24 rdInts (.cons cells56 rdTens .nil))))).map
    (fun x => ⟨x.1, x.2.1, x.2.2.1, x.2.2.2.1.1.1, x.2.2.2.1.1.2.1, x.2.2.2.1.2.1⟩) (fun x => rfl)
    (fun x hx => by
      obtain ⟨_, ⟨h1, _⟩, ⟨h2, _⟩, ⟨⟨⟨h3, _⟩, _⟩, ⟨h4, _⟩, _⟩, _⟩ := hx
      unfold reachBytes at *
      exact ⟨Nat.lt_of_le_of_lt h1 (by decide), Nat.lt_of_le_of_lt h2 (by decide), Nat.lt_of_le_of_lt h3 (by decide), Nat.lt_of_le_of_lt h4 (by decide)⟩)
theorem rdNodes : Rd e Tryd.prog w (List Nd) 39 (fun xs => [slN xs]) (fun xs => xs.length ≤ reachBytes ∧ ∀ x ∈ xs, x.fin) :=
  Rd.slice Tryd.underlying39 (of_decide_eq_true (by kernel_rfl)) rdNode (fun x => by rw [cells58]; rfl)
theorem str41 : structB Tryd.prog 41 [(39, 0), (3, 1)] = true := by kernel_rfl
theorem rdGraph : Rd e Tryd.prog w Gr 41 (fun g => [slN g.nodes, li g.out]) (fun g => g.nodes.length ≤ reachBytes ∧ ∀ x ∈ g.nodes, x.fin) :=
  (Rd.struct (l := [(39, 0), (3, 1)]) str41 cells41 (.cons cells39 rdNodes (.cons cells3 rdInt3 .nil))).map (fun x => ⟨x.1, x.2.1⟩) (fun x => rfl) (fun x hx => hx.1)
end
theorem und44 : Tryd.prog.underlying 44 = some (.slice 5) := by kernel_rfl
theorem und5 : Tryd.prog.underlying 5 = some (.int .u8) := by kernel_rfl
theorem _root_.Go.Ideal.Rd.u8 {H : Type} {e : TypeId × Value → H} {P : Program} {w : World} {t : TypeId} (ht : P.underlying t = some (.int .u8)) : Rd e P w Int t (fun n => [.lit (.int .u8 n)]) (fun n => 0 ≤ n ∧ n ≤ 255) := by
  intro fuel cs d ps h hw
  obtain ⟨n, rfl, h1, h2⟩ := DataW.trod_int ht h
  refine ⟨n, ?_, RL_one_mk (by simp only [R]), fun u hu => by simp at hu; subst hu; rfl⟩
  simp only [Lit.wf, decide_eq_true_eq, Bool.and_eq_true] at h2
  first | exact h2 | (obtain ⟨a, b⟩ := h2; simp [IntKind.wrap_u8] at *; omega)
theorem rdBytes {H : Type} {e : TypeId × Value → H} {w : World} : Rd e Tryd.prog w (List Int) 44 (fun xs => [slU xs]) (fun xs => xs.length ≤ reachBytes ∧ ∀ x ∈ xs, 0 ≤ x ∧ x ≤ 255) :=
  Rd.slice1 und44 (of_decide_eq_true (by kernel_rfl)) (of_decide_eq_true (by kernel_rfl)) (Rd.u8 und5)
theorem parRec9 : (Tryd.f9.params.toList.all fun t => Tryd.prog.readableRec t && decide (t < Tryd.prog.types.size)) = true := by kernel_rfl
theorem result9 : Tryd.f9.resultTypes = #[4] := by kernel_rfl
theorem plainLaid9 : (Rows.graphBackRow.laid.all fun x => x.2.handleName?.isNone) = true := by kernel_rfl
theorem sents9 : sentB Rows.graphBackRow.laid = true := by kernel_rfl
theorem laidH_met9 (os : Os) (args : Array Value) : laidMetH Tryd.prog Rows.graphBackRow.laid ((laidWorld os).forCall (fun _ _ => 0) ⟨#[], args, []⟩).memory := by
  rw [MakeChecks.laidMetH_plain _ _ _ plainLaid9]; exact laidMet_of_run' 8 (by kernel_rfl) (by kernel_rfl)
theorem sentW9 {W : World} (h : laidMetH Tryd.prog Rows.graphBackRow.laid W) : ∃ G bk, Sent G bk ∧ ∀ g v, G g = some v → GC W g v ∧ g < W.heap.size := by
  rw [MakeChecks.laidMetH_plain _ _ _ plainLaid9] at h
  exact sent_of_laid h sents9
set_option maxRecDepth 100000 in
theorem graphBack_lifted (os : Os) (started : os.Started) (H : Type) (enc : TypeId × Value → H) :
    ReturnsInHanded {} Tryd.checked os 9 .any (fun w args => (Rows.graphBackSpec.pre enc Tryd.prog Tryd.f9 [] false w args ∧ laidMetH Tryd.prog Rows.graphBackRow.laid w) ∧ sizedMet enc Tryd.prog Tryd.f9 (OpenSpec.ofChange Rows.graphBackSpec) false w args)
      (Rows.graphBackSpec.post enc Tryd.prog Tryd.f9 false true false false) := by
  refine returnsInHanded_of_change_and (C := Tryd.checked) (X := fun w _ => laidMetH Tryd.prog Rows.graphBackRow.laid w) (fun _ _ _ hh h => h.of_heap hh) own started (by kernel_rfl) Tryd.func9
    (ChangeSpec.witness_shaped (enc := enc) (C := Tryd.checked) (os := os) (X := fun w _ => laidMetH Tryd.prog Rows.graphBackRow.laid w) false (laidWorld os) #[.agg #[.slice none 0 0, .int .i64 0], .int .i64 0, .slice none 0 0] 8 rfl (laid_shaped os _) (by kernel_rfl) (by kernel_rfl) (by kernel_rfl) (laidH_met9 os _)) ?_
  intro W base args ds gs before hval0 hW _ hwt hL _
  have hval : ∀ (j : Nat) t v, Tryd.f9.params[j]? = some t → args[j]? = some v → Value.okWide Tryd.prog W .any base t v := hval0
  have hW' := hW
  obtain ⟨p, q, hA0, hV0, rfl, hfz, hnd⟩ := hW
  have hA : DataW.TrodAll enc Tryd.prog W 0 (fun _ => true) true Tryd.f9.params.toList args.toList ds p := hA0
  rw [Tryd.params9] at hA hval
  obtain ⟨v0, v1, v2, d0, d1, d2, p0, p1, p2, rfl, rfl, rfl, h0, h1, h2⟩ := trodAll_three hA
  obtain ⟨cc, rfl, rfl, rfl, hcc⟩ := open_int Tryd.underlying3 (hval 1 3 v1 rfl rfl) h1
  obtain ⟨a0, l0, c0, rfl⟩ := okWide_slice und44 (hval 2 44 v2 rfl rfl)
  have hok0 := hval 0 41 v0 rfl rfl
  obtain ⟨rfl, rfl⟩ := trodVars_none (show DataW.TrodVars enc Tryd.prog W (fun _ => true) [] gs q from hV0)
  obtain ⟨fuel, h0⟩ := h0
  obtain ⟨fuel2, h2⟩ := h2
  have hww : (d0.weights Tryd.prog 41).all (· ≤ reachBytes) = true ∧ (d2.weights Tryd.prog 44).all (· ≤ reachBytes) = true := by
    show (d0.weights Tryd.checked.prog 41).all (· ≤ reachBytes) = true ∧ (d2.weights Tryd.checked.prog 44).all (· ≤ reachBytes) = true
    have := hwt
    rw [Tryd.params9] at this
    have h3 : ((d0.weights Tryd.checked.prog 41).all (· ≤ reachBytes) && (((DataW.lit (H := H) (Lit.int IntKind.i64 cc)).weights Tryd.checked.prog 3).all (· ≤ reachBytes) && (d2.weights Tryd.checked.prog 44).all (· ≤ reachBytes))) = true := by
      simpa [DataW.weightsEach, Rows.graphBackSpec, ChangeSpec.plain] using this
    simp only [Bool.and_eq_true] at h3
    exact ⟨h3.1, h3.2.2⟩
  obtain ⟨g, ⟨hl, hok⟩, hr, hc⟩ := rdGraph (e := enc) (w := W) fuel _ d0 p0 h0 hww.1
  obtain ⟨ds, ⟨hl2, hB⟩, hr2, hc2⟩ := rdBytes (e := enc) (w := W) fuel2 _ d2 p2 h2 hww.2
  obtain ⟨G, bk, hS, hG⟩ := sentW9 hL
  refine (law_calls (graphBack9 (G := G) hS g cc ds (by unfold reachBytes at hl; omega) hok hB (by unfold reachBytes at hl2; omega)) rfl hG (fun i av hi => ?_)).mono fun e W' ⟨he, hb⟩ => ?_
  · rcases i with _ | _ | _ | i
    · simp at hi; subst hi; exact R_agg_of str41 hok0 hr hc
    · simp at hi; subst hi; simp [R]
    · simp at hi; subst hi; obtain ⟨v, hv, hr⟩ := RL_one hr2; simp [Value.cells] at hv; subst hv; exact hr
    · simp at hi
  · subst he
    refine ⟨_, rfl, law_post laidOut (fun t ht => ?_) result9 Tryd.underlying4 rfl rfl hW' hb⟩
    have h := List.all_eq_true.1 parRec9 t ht
    simp only [Bool.and_eq_true, decide_eq_true_eq] at h
    exact h
theorem graphBack_row : Rows.GraphBackSaid :=
  OpenClaim.holds_of_wide 9 Tryd.f9 rfl rfl rfl rfl rfl rfl rfl ⟨rfl, rfl, rfl, rfl, rfl⟩ rfl rfl rfl rfl rfl (by kernel_rfl) Tryd.func9 (by kernel_rfl)
    (of_decide_eq_true (by kernel_rfl)) (by unfold Func.isWrapper; rw [if_neg (of_decide_eq_false (by kernel_rfl))]; exact ⟨rfl, rfl⟩)
    (fun os started H enc _ => graphBack_lifted os started H enc)
theorem graphBack_holds : Rows.GraphBackCardSaid :=
  Claim7.holds_tied_plain_at .later [] [.sentinel, .sentinel, .sentinel, .sentinel, .sentinel, .sentinel, .sentinel, .sentinel, .sentinel, .sentinel, .sentinel, .sentinel, .sentinel, .sentinel, .sentinel, .sentinel, .sentinel, .sentinel, .sentinel, .sentinel, .sentinel] true (true, "47fb43701d527ba97f8cf6fd1dc4e72c6e366ffaa96a8b90e592e223bf285dda") true
    graphBack_row (fun _ h => by cases h) (by kernel_rfl) (fun _ h => by cases h) graphBack_row_tie rfl ⟨rfl, rfl⟩ (by kernel_rfl) rfl
    (fun f fn hf hfn => by
      obtain rfl : f = 9 := Option.some.inj ((show Tryd.prog.funcNamed "lodge/lodgelaw17.GraphBack" = some 9 by kernel_rfl).symm.trans hf) |>.symm
      obtain rfl : fn = Tryd.f9 := (Option.some.inj (Tryd.func9.symm.trans hfn)).symm
      exact ⟨by kernel_rfl, fun j t ht => by
        rw [Tryd.params9] at ht
        have h3 : t = 41 ∨ t = 3 ∨ t = 44 := by
          rcases j with _ | _ | _ | j
          · exact .inl (by simpa using ht.symm)
          · exact .inr (.inl (by simpa using ht.symm))
          · exact .inr (.inr (by simpa using ht.symm))
          · simp at ht
        rcases h3 with rfl | rfl | rfl
        · exact (show Tryd.prog.wantsStandIn 41 = false by kernel_rfl)
        · exact (show Tryd.prog.wantsStandIn 3 = false by kernel_rfl)
        · exact (show Tryd.prog.wantsStandIn 44 = false by kernel_rfl)⟩)
    (by kernel_rfl)
#print axioms graphBack_holds
end Go.Proofs.YtfdhkijgolgnfaaDoor
end
