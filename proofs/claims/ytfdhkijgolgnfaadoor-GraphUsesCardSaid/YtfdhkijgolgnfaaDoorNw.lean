/- Part Nw of the proof: a machine with trees for values, its soundness, and walks on it. -/
import Derived.Test.YtfdhkijgolgnfaaDoorNv

section
set_option linter.unusedVariables false
set_option linter.unusedSimpArgs false
namespace Go.Ideal
section
variable {P : Program} {G : Nat → Option Value} {N : Nat} {aft : List (List Nat)} {fps : List (List Nat × List Nat)} {K : St → Prop} {Q : Exit → St → Prop} {st : St} {d : Option Nat} {rest ios : List AO}
theorem aw_draw (h : dOps P G N aft ios [] (Q .normal) st) : AW P G N (.draw ios aft) Q st := dOps_sound ios [] (Q .normal) st h
theorem dFin_i (h : indepB aft fps = true) (h2 : ∀ s, (∀ t, t < N → s.s t = st.s t) → (∀ t, t < N → s.ep t = st.ep t) → K s) : dFin N aft fps K st :=
  ⟨h, fun s hs => h2 s (fun t ht => (hs t ht).1) (fun t ht => (hs t ht).2)⟩
@[congr] theorem dOps_congr {ios' : List AO} {fps' : List (List Nat × List Nat)} {st' : St} (h : ios = ios') (h2 : fps = fps') (h3 : st = st') : dOps P G N aft ios fps K st = dOps P G N aft ios' fps' K st' := by rw [h, h2, h3]
@[go_sem] theorem dOps_nil : dOps P G N aft [] fps K st = dFin N aft fps K st := (rfl)
def fullN (N : Nat) : List Nat := List.range N
/-- A step that touches all. -/
def dFull (P : Program) (G : Nat → Option Value) (N : Nat) (aft : List (List Nat)) (ex : List Nat) (d : Option Nat) (xs : List X) (rest : List AO) (fps : List (List Nat × List Nat)) (K : St → Prop) (st st' : St) : Prop :=
  (∀ t ∈ ex ++ (d.toList ++ depsL st xs), t < N) ∧ dOps P G N aft rest (fps ++ [(ex ++ fullN N, fullN N)]) K st'
/-- A step's run is at hand. -/
def dE (P : Program) (G : Nat → Option Value) (N : Nat) (aft : List (List Nat)) (ex : List Nat) (d : Option Nat) (i : IOp) (rest : List AO) (fps : List (List Nat × List Nat)) (K : St → Prop) (st : St) (o : Option (List X)) (e : Option St) : Prop := match o, e with
  | some xs, some st' => dSel (stoB N st i) ((∀ t ∈ ex ++ (d.toList ++ depsL st xs), t < N) ∧ (∀ t ∈ Wop st d i, t < N) ∧ fr N (Wop st d i) st st' ∧ dOps P G N aft rest (fps ++ [(ex ++ (d.toList ++ depsL st xs), Wop st d i)]) K st') (dFull P G N aft ex d xs rest fps K st st')
  | _, _ => False
@[congr] theorem dE_congr {ex : List Nat} {i : IOp} {o o' : Option (List X)} {e e' : Option St} (h : o = o') (h2 : e = e') : dE P G N aft ex d i rest fps K st o e = dE P G N aft ex d i rest fps K st o' e' := by rw [h, h2]
@[go_sem] theorem dE_some {ex : List Nat} {i : IOp} {xs : List X} {st' : St} : dE P G N aft ex d i rest fps K st (some xs) (some st') = dSel (stoB N st i) ((∀ t ∈ ex ++ (d.toList ++ depsL st xs), t < N) ∧ (∀ t ∈ Wop st d i, t < N) ∧ fr N (Wop st d i) st st' ∧ dOps P G N aft rest (fps ++ [(ex ++ (d.toList ++ depsL st xs), Wop st d i)]) K st') (dFull P G N aft ex d xs rest fps K st st') := (rfl)
@[go_sem] theorem dOps_op {i : IOp} : dOps P G N aft (⟨d, .op i, none⟩ :: rest) fps K st = dE P G N aft [] d i rest fps K st (opnds i) (evS G N d i st) := by
  simp only [dOps, dAct, dE]
  cases opnds i <;> cases evS G N d i st <;> rfl
/-- A guarded step of a drawn region. -/
def dGd (P : Program) (G : Nat → Option Value) (N : Nat) (aft : List (List Nat)) (v : AV) (want : Bool) (t : Nat) (d : Option Nat) (i : IOp) (rest : List AO) (fps : List (List Nat × List Nat)) (K : St → Prop) (st : St) : Prop := match v with
  | .lit v => if wantB want v then dE P G N aft [t] d i rest fps K st (opnds i) (evS G N d i st) else (∀ u ∈ t :: d.toList, u < N) ∧ dOps P G N aft rest (fps ++ [([t], d.toList)]) K (skipS d st)
  | _ => False
section
variable {t : Nat} {i : IOp}
@[congr] theorem dGd_congr {v v' : AV} {w : Bool} (h : v = v') : dGd P G N aft v w t d i rest fps K st = dGd P G N aft v' w t d i rest fps K st := by rw [h]
@[go_sem] theorem dOps_g {j : Nat} {want : Bool} : dOps P G N aft (⟨d, .op i, some (j, t, want)⟩ :: rest) fps K st = dGd P G N aft (st.s t) want t d i rest fps K st := by
  simp only [dOps, dGd]
  cases st.s t <;> try rfl
@[go_sem] theorem dGd_tt : dGd P G N aft (.lit (.bool true)) true t d i rest fps K st = dE P G N aft [t] d i rest fps K st (opnds i) (evS G N d i st) := (rfl)
@[go_sem] theorem dGd_ff : dGd P G N aft (.lit (.bool false)) false t d i rest fps K st = dE P G N aft [t] d i rest fps K st (opnds i) (evS G N d i st) := (rfl)
@[go_sem] theorem dGd_tf : dGd P G N aft (.lit (.bool true)) false t d i rest fps K st = ((∀ u ∈ t :: d.toList, u < N) ∧ dOps P G N aft rest (fps ++ [([t], d.toList)]) K (skipS d st)) := (rfl)
@[go_sem] theorem dGd_ft : dGd P G N aft (.lit (.bool false)) true t d i rest fps K st = ((∀ u ∈ t :: d.toList, u < N) ∧ dOps P G N aft rest (fps ++ [([t], d.toList)]) K (skipS d st)) := (rfl)
end
/-- A call of a drawn region is at hand. -/
def dCal (P : Program) (G : Nat → Option Value) (N : Nat) (aft : List (List Nat)) (d : Option Nat) (f : FuncId) (pre : List AV) (rd : List Nat) (rest : List AO) (fps : List (List Nat × List Nat)) (K : St → Prop) (st st1 st2 : St) : Prop :=
  ∃ res W, ACalls P G f pre res ∧ noRef res = true ∧ (∀ t ∈ rd, t < N) ∧ (∀ t ∈ W, t < N) ∧ fr N W st (finS (if noImm res then st1 else st2) N d res) ∧ dOps P G N aft rest (fps ++ [(rd, W)]) K (finS (if noImm res then st1 else st2) N d res)
def dClK (P : Program) (G : Nat → Option Value) (N : Nat) (aft : List (List Nat)) (d : Option Nat) (f : FuncId) (args : List (Bool × X)) (rest : List AO) (fps : List (List Nat × List Nat)) (K : St → Prop) (st : St) (o1 o2 : Option St) : Prop := match o1, o2 with
  | some st1, some st2 => dCal P G N aft d f (preOf N args.length st2) (d.toList ++ depsL st (args.map (·.2))) rest fps K st st1 st2
  | _, _ => False
def dClG (P : Program) (G : Nat → Option Value) (N : Nat) (aft : List (List Nat)) (d : Option Nat) (f : FuncId) (args : List (Bool × X)) (rest : List AO) (fps : List (List Nat × List Nat)) (K : St → Prop) (st : St) (o1 : Option St) : Prop := dClK P G N aft d f args rest fps K st o1 (pss N (N + 2) args o1)
section
variable {f : FuncId} {args : List (Bool × X)}
@[congr] theorem dClG_congr {o o' : Option St} (h : o = o') : dClG P G N aft d f args rest fps K st o = dClG P G N aft d f args rest fps K st o' := by rw [h]
@[congr] theorem dClK_congr {o1 o o' : Option St} (h : o = o') : dClK P G N aft d f args rest fps K st o1 o = dClK P G N aft d f args rest fps K st o1 o' := by rw [h]
@[congr] theorem dCal_congr {pre pre' : List AV} {rd rd' : List Nat} {st1 st2 : St} (h : pre = pre') (h2 : rd = rd') : dCal P G N aft d f pre rd rest fps K st st1 st2 = dCal P G N aft d f pre' rd' rest fps K st st1 st2 := by rw [h, h2]
@[go_sem] theorem dClG_some {st1 : St} : dClG P G N aft d f args rest fps K st (some st1) = dClK P G N aft d f args rest fps K st (some st1) (pss N (N + 2) args (some st1)) := (rfl)
@[go_sem] theorem dClK_some {st1 st2 : St} : dClK P G N aft d f args rest fps K st (some st1) (some st2) = dCal P G N aft d f (preOf N args.length st2) (d.toList ++ depsL st (args.map (·.2))) rest fps K st st1 st2 := (rfl)
@[go_sem] theorem dOps_call {tys : List TypeId} : dOps P G N aft (⟨d, .call f args tys, none⟩ :: rest) fps K st = dClG P G N aft d f args rest fps K st (gvs N (N + 2) args (some st)) := by
  simp only [dOps, dAct, dClG, dClK, dCal]
  cases gvs N (N + 2) args (some st) with
  | none => rfl
  | some st1 =>
    simp only
    cases pss N (N + 2) args (some st1) <;> rfl
theorem dCal_pure {pre : List AV} {rd : List Nat} {st1 st2 : St} {res : AV} (hA : ACalls P G f pre res) (hn : noRef res = true) (hi : noImm res = true) (hrd : ∀ t ∈ rd, t < N) (W : List Nat) (hW : ∀ t ∈ W, t < N) (hf : fr N W st (finS st1 N d res)) (h : dOps P G N aft rest (fps ++ [(rd, W)]) K (finS st1 N d res)) : dCal P G N aft d f pre rd rest fps K st st1 st2 :=
  ⟨res, W, hA, hn, hrd, hW, by rw [hi]; exact hf, by rw [hi]; exact h⟩
theorem dCal_imm {pre : List AV} {rd : List Nat} {st1 st2 : St} {res : AV} (hA : ACalls P G f pre res) (hn : noRef res = true) (hi : noImm res = false) (hrd : ∀ t ∈ rd, t < N) (W : List Nat) (hW : ∀ t ∈ W, t < N) (hf : fr N W st (finS st2 N d res)) (h : dOps P G N aft rest (fps ++ [(rd, W)]) K (finS st2 N d res)) : dCal P G N aft d f pre rd rest fps K st st1 st2 :=
  ⟨res, W, hA, hn, hrd, hW, by rw [hi]; exact hf, by rw [hi]; exact h⟩
end

/-! ### what changes -/
section
variable {W : List Nat} {st1 : St} {t : Nat} {v : AV}
def frI (b : Bool) (p q : Prop) : Prop := if b then p else q
@[congr] theorem frI_congr {b b' : Bool} {p q : Prop} (h : b = b') : frI b p q = frI b' p q := by rw [h]
@[go_sem] theorem frI_t {p q : Prop} : frI true p q = p := by simp [frI]
def frX (N : Nat) (W : List Nat) (st st' : St) : Prop := fr N W st st'
@[go_sem] theorem fr_refl : fr N W st st = True := by simp [fr, agr.refl]
theorem fr_eq {st2 st3 : St} (h : ∀ u, u < N → u ∉ W → agr st2 st3 u) : fr N W st st2 = fr N W st st3 := by
  apply propext
  constructor
  · intro h2 u hu hw; exact (h2 u hu hw).trans (h u hu hw)
  · intro h2 u hu hw; exact (h2 u hu hw).trans (h u hu hw).symm
@[go_sem] theorem fr_put : fr N W st (st1.put t v) = frI (W.contains t || decide (N ≤ t)) (fr N W st st1) (frX N W st (st1.put t v)) := by
  simp only [frI, frX]
  split
  · rename_i h
    refine fr_eq fun u hu hw => (agr.putn v ?_).symm
    rintro rfl
    simp at h
    rcases h with h | h
    · exact hw h
    · omega
  · rfl
@[go_sem] theorem fr_set : fr N W st (st1.set t v) = frI (W.contains t || decide (N ≤ t)) (fr N W st st1) (frX N W st (st1.set t v)) := by
  simp only [frI, frX]
  split
  · rename_i h
    refine fr_eq fun u hu hw => (agr.setn v ?_).symm
    rintro rfl
    simp at h
    rcases h with h | h
    · exact hw h
    · omega
  · rfl
@[go_sem] theorem fr_thru {M : Nat} : fr N W st (st1.thru M t v) = frI ((W.contains t || decide (N ≤ t)) && decide (N ≤ M)) (fr N W st st1) (frX N W st (st1.thru M t v)) := by
  simp only [frI, frX]
  split
  · rename_i h
    simp only [Bool.and_eq_true, Bool.or_eq_true, decide_eq_true_eq, List.contains_iff_mem] at h
    refine fr_eq fun u hu hw => ?_
    have h1 : u ≠ M := by omega
    have h2 : u ≠ t := by
      rintro rfl
      rcases h.1 with h | h
      · exact hw h
      · omega
    exact (((agr.putn v h1).trans (agr.putn _ h1)).trans (agr.putn v h2)).symm
  · rfl
@[go_sem] theorem fr_clear : fr N W st (st1.clear N) = fr N W st st1 := by
  refine fr_eq fun u hu _ => ?_
  simp [agr, St.clear, hu]
end
end
@[congr] theorem dSel_congr {b b' : Bool} {p q : Prop} (h : b = b') : dSel b p q = dSel b' p q := by rw [h]
@[go_sem] theorem dSel_t {p q : Prop} : dSel true p q = p := by simp [dSel]
section
variable {P : Program} {G : Nat → Option Value} {N : Nat} {aft : List (List Nat)} {fps : List (List Nat × List Nat)} {K : St → Prop} {st st' : St} {d : Option Nat} {rest : List AO} {ex : List Nat} {xs : List X}
@[go_sem] theorem dSel_f {p : Prop} : dSel false p (dFull P G N aft ex d xs rest fps K st st') = ((∀ t ∈ ex ++ (d.toList ++ depsL st xs), t < N) ∧ dOps P G N aft rest (fps ++ [(ex ++ fullN N, fullN N)]) K st') := by simp only [dSel, dFull, Bool.false_eq_true, if_false]
end
attribute [go_sem] opnds depsL deps slL slX baseOf Wop Option.toList_some Option.toList_none stoB List.forall_mem_cons
end Go.Ideal
end
