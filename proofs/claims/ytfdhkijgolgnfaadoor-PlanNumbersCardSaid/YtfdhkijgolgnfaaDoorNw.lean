/- Part Nw of the proof: a machine with trees for values, its soundness, and walks on it. -/
import Derived.Test.YtfdhkijgolgnfaaDoorNv

section
set_option linter.unusedVariables false
set_option linter.unusedSimpArgs false
namespace Go.Ideal
section
variable {P : Program} {G : Nat → Option Value} {N : Nat} {aft : DA} {fps : List (List Nat × List Nat)} {K : St → Prop} {Q : Exit → St → Prop} {st : St} {d : Option Nat} {rest ios : List AO}
theorem aw_draw {aft : List (List Nat)} (h : dOps P G N (aft, []) ios [] (Q .normal) st) : AW P G N (.draw ios aft) Q st := ⟨[], (fun p hp => by simp at hp), (fun p hp => by simp at hp), dOps_sound (aft := (aft, [])) ios [] (Q .normal) st (fun p hp => by simp at hp) h⟩
/-- .. where some slots are variables throughout. -/
theorem aw_drawV {aft : List (List Nat)} (V : List (Nat × Nat)) (hN : ∀ p ∈ V, p.1 < N) (hI : InvV V st) (h : dOps P G N (aft, V) ios [] (Q .normal) st) : AW P G N (.draw ios aft) Q st := ⟨V, hN, hI, dOps_sound (aft := (aft, V)) ios [] (Q .normal) st hI h⟩
@[go_sem] theorem InvV_nil : InvV [] st = True := by simp [InvV]
@[go_sem] theorem InvV_cons {t e : Nat} {V : List (Nat × Nat)} : InvV ((t, e) :: V) st = (isVarA (st.s t) = true ∧ st.ep t = e ∧ InvV V st) := by
  apply propext
  constructor
  · intro h; exact ⟨(h (t, e) (by simp)).1, (h (t, e) (by simp)).2, fun p hp => h p (by simp [hp])⟩
  · rintro ⟨h1, h2, h3⟩ p hp
    rcases List.mem_cons.1 hp with rfl | hp
    · exact ⟨h1, h2⟩
    · exact h3 p hp
@[go_sem] theorem isVarA_var {ks : List AV} : isVarA (.var ks) = true := (rfl)
@[congr] theorem InvV_congr {V : List (Nat × Nat)} {st' : St} (h : st = st') : InvV V st = InvV V st' := by rw [h]
theorem dFin_i {aft : List (List Nat)} {V : List (Nat × Nat)} (h : indepB aft fps = true) (h2 : ∀ s, (∀ t, t < N → s.s t = st.s t) → (∀ t, t < N → s.ep t = st.ep t) → K s) : dFin N (aft, V) fps K st :=
  ⟨h, fun s hs => h2 s (fun t ht => (hs t ht).1) (fun t ht => (hs t ht).2)⟩
@[congr] theorem dOps_congr {ios' : List AO} {fps' : List (List Nat × List Nat)} {st' : St} (h : ios = ios') (h2 : fps = fps') (h3 : st = st') : dOps P G N aft ios fps K st = dOps P G N aft ios' fps' K st' := by rw [h, h2, h3]
@[go_sem] theorem dOps_nil : dOps P G N aft [] fps K st = dFin N aft fps K st := (rfl)
def fullN (N : Nat) : List Nat := List.range N
/-- A step that touches all. -/
def dFull (P : Program) (G : Nat → Option Value) (N : Nat) (aft : DA) (ex : List Nat) (d : Option Nat) (xs : List X) (rest : List AO) (fps : List (List Nat × List Nat)) (K : St → Prop) (st st' : St) : Prop :=
  (∀ t ∈ ex ++ (d.toList ++ depsL st xs), t < N) ∧ InvV aft.2 st' ∧ dOps P G N aft rest (fps ++ [(ex ++ fullN N, fullN N)]) K st'
/-- A step's run is at hand. -/
def dE (P : Program) (G : Nat → Option Value) (N : Nat) (aft : DA) (ex : List Nat) (d : Option Nat) (i : IOp) (rest : List AO) (fps : List (List Nat × List Nat)) (K : St → Prop) (st : St) (o : Option (List X)) (e : Option St) : Prop := match o, e with
  | some xs, some st' => dSel (stoB N st i) ((∀ t ∈ ex ++ (d.toList ++ depsL st xs), t < N) ∧ (∀ t ∈ Wop st d i, t < N) ∧ fr N (Wop st d i) st st' ∧ InvV aft.2 st' ∧ dOps P G N aft rest (fps ++ [(ex ++ (d.toList ++ rdOp aft.2 st xs i), Wop st d i)]) K st') (dFull P G N aft ex d xs rest fps K st st')
  | _, _ => False
@[congr] theorem dE_congr {ex : List Nat} {i : IOp} {o o' : Option (List X)} {e e' : Option St} (h : o = o') (h2 : e = e') : dE P G N aft ex d i rest fps K st o e = dE P G N aft ex d i rest fps K st o' e' := by rw [h, h2]
@[go_sem] theorem dE_some {ex : List Nat} {i : IOp} {xs : List X} {st' : St} : dE P G N aft ex d i rest fps K st (some xs) (some st') = dSel (stoB N st i) ((∀ t ∈ ex ++ (d.toList ++ depsL st xs), t < N) ∧ (∀ t ∈ Wop st d i, t < N) ∧ fr N (Wop st d i) st st' ∧ InvV aft.2 st' ∧ dOps P G N aft rest (fps ++ [(ex ++ (d.toList ++ rdOp aft.2 st xs i), Wop st d i)]) K st') (dFull P G N aft ex d xs rest fps K st st') := (rfl)
@[go_sem] theorem dOps_op {i : IOp} : dOps P G N aft (⟨d, .op i, none⟩ :: rest) fps K st = dE P G N aft [] d i rest fps K st (opnds i) (evS G N d i st) := by
  simp only [dOps, dAct, dE]
  cases opnds i <;> cases evS G N d i st <;> rfl
/-- A guarded step of a drawn region. -/
def dGd (P : Program) (G : Nat → Option Value) (N : Nat) (aft : DA) (v : AV) (want : Bool) (t : Nat) (d : Option Nat) (i : IOp) (rest : List AO) (fps : List (List Nat × List Nat)) (K : St → Prop) (st : St) : Prop := match v with
  | .lit v => if wantB want v then dE P G N aft [t] d i rest fps K st (opnds i) (evS G N d i st) else (∀ u ∈ t :: d.toList, u < N) ∧ InvV aft.2 (skipS d st) ∧ dOps P G N aft rest (fps ++ [([t], d.toList)]) K (skipS d st)
  | _ => False
section
variable {t : Nat} {i : IOp}
@[congr] theorem dGd_congr {v v' : AV} {w : Bool} (h : v = v') : dGd P G N aft v w t d i rest fps K st = dGd P G N aft v' w t d i rest fps K st := by rw [h]
@[go_sem] theorem dOps_g {j : Nat} {want : Bool} : dOps P G N aft (⟨d, .op i, some (j, t, want)⟩ :: rest) fps K st = dGd P G N aft (st.s t) want t d i rest fps K st := by
  simp only [dOps, dGd]
  cases st.s t <;> try rfl
@[go_sem] theorem dGd_tt : dGd P G N aft (.lit (.bool true)) true t d i rest fps K st = dE P G N aft [t] d i rest fps K st (opnds i) (evS G N d i st) := (rfl)
@[go_sem] theorem dGd_ff : dGd P G N aft (.lit (.bool false)) false t d i rest fps K st = dE P G N aft [t] d i rest fps K st (opnds i) (evS G N d i st) := (rfl)
@[go_sem] theorem dGd_tf : dGd P G N aft (.lit (.bool true)) false t d i rest fps K st = ((∀ u ∈ t :: d.toList, u < N) ∧ InvV aft.2 (skipS d st) ∧ dOps P G N aft rest (fps ++ [([t], d.toList)]) K (skipS d st)) := (rfl)
@[go_sem] theorem dGd_ft : dGd P G N aft (.lit (.bool false)) true t d i rest fps K st = ((∀ u ∈ t :: d.toList, u < N) ∧ InvV aft.2 (skipS d st) ∧ dOps P G N aft rest (fps ++ [([t], d.toList)]) K (skipS d st)) := (rfl)
end
/-- A call of a drawn region is at hand. -/
def dCal (P : Program) (G : Nat → Option Value) (N : Nat) (aft : DA) (d : Option Nat) (f : FuncId) (pre : List AV) (rd : List Nat) (rest : List AO) (fps : List (List Nat × List Nat)) (K : St → Prop) (st st1 st2 : St) : Prop :=
  ∃ res W, ACalls P G f pre res ∧ noRef res = true ∧ (∀ t ∈ rd, t < N) ∧ (∀ t ∈ W, t < N) ∧ fr N W st (finS (if noImm res then st1 else st2) N d res) ∧ InvV aft.2 (finS (if noImm res then st1 else st2) N d res) ∧ dOps P G N aft rest (fps ++ [(rd, W)]) K (finS (if noImm res then st1 else st2) N d res)
def dClK (P : Program) (G : Nat → Option Value) (N : Nat) (aft : DA) (d : Option Nat) (f : FuncId) (args : List (Bool × X)) (rest : List AO) (fps : List (List Nat × List Nat)) (K : St → Prop) (st : St) (o1 o2 : Option St) : Prop := match o1, o2 with
  | some st1, some st2 => dCal P G N aft d f (preOf N args.length st2) (d.toList ++ depsL st (args.map (·.2))) rest fps K st st1 st2
  | _, _ => False
def dClG (P : Program) (G : Nat → Option Value) (N : Nat) (aft : DA) (d : Option Nat) (f : FuncId) (args : List (Bool × X)) (rest : List AO) (fps : List (List Nat × List Nat)) (K : St → Prop) (st : St) (o1 : Option St) : Prop := dClK P G N aft d f args rest fps K st o1 (pss N (N + 2) args o1)
section
variable {f : FuncId} {args : List (Bool × X)}
@[congr] theorem dClG_congr {o o' : Option St} (h : o = o') : dClG P G N aft d f args rest fps K st o = dClG P G N aft d f args rest fps K st o' := by rw [h]
@[congr] theorem dClK_congr {o1 o o' : Option St} (h : o = o') : dClK P G N aft d f args rest fps K st o1 o = dClK P G N aft d f args rest fps K st o1 o' := by rw [h]
@[congr] theorem dCal_congr {pre pre' : List AV} {rd rd' : List Nat} {st1 st2 : St} (h : pre = pre') (h2 : rd = rd') : dCal P G N aft d f pre rd rest fps K st st1 st2 = dCal P G N aft d f pre' rd' rest fps K st st1 st2 := by rw [h, h2]
@[go_sem] theorem dClG_some {st1 : St} : dClG P G N aft d f args rest fps K st (some st1) = dClK P G N aft d f args rest fps K st (some st1) (pss N (N + 2) args (some st1)) := (rfl)
@[go_sem] theorem dClK_some {st1 st2 : St} : dClK P G N aft d f args rest fps K st (some st1) (some st2) = dCal P G N aft d f (preOf N args.length st2) (d.toList ++ depsL st (args.map (·.2))) rest fps K st st1 st2 := (rfl)
@[go_sem] theorem dOps_call {tys : List TypeId} : dOps P G N aft (⟨d, .call f args tys, none⟩ :: rest) fps K st = dClG P G N aft d f args rest fps K st (gvs N (N + 2) args (some st)) := by
  simp only [dOps, dAct, dClG, dClK, dCal]
  cases gvs N (N + 2) args (some st) with
  | none => rfl
  | some st1 =>
    simp only
    cases pss N (N + 2) args (some st1) <;> rfl
theorem dCal_pure {pre : List AV} {rd : List Nat} {st1 st2 : St} {res : AV} (hA : ACalls P G f pre res) (hn : noRef res = true) (hi : noImm res = true) (hrd : ∀ t ∈ rd, t < N) (W : List Nat) (hW : ∀ t ∈ W, t < N) (hf : fr N W st (finS st1 N d res)) (h : InvV aft.2 (finS st1 N d res) ∧ dOps P G N aft rest (fps ++ [(rd, W)]) K (finS st1 N d res)) : dCal P G N aft d f pre rd rest fps K st st1 st2 :=
  ⟨res, W, hA, hn, hrd, hW, by rw [hi]; exact hf, by rw [hi]; exact h⟩
theorem dCal_imm {pre : List AV} {rd : List Nat} {st1 st2 : St} {res : AV} (hA : ACalls P G f pre res) (hn : noRef res = true) (hi : noImm res = false) (hrd : ∀ t ∈ rd, t < N) (W : List Nat) (hW : ∀ t ∈ W, t < N) (hf : fr N W st (finS st2 N d res)) (h : InvV aft.2 (finS st2 N d res) ∧ dOps P G N aft rest (fps ++ [(rd, W)]) K (finS st2 N d res)) : dCal P G N aft d f pre rd rest fps K st st1 st2 :=
  ⟨res, W, hA, hn, hrd, hW, by rw [hi]; exact hf, by rw [hi]; exact h⟩
end

/-! ### what changes -/
section
variable {W : List Nat} {st1 : St} {t : Nat} {v : AV}
def frI (b : Bool) (p q : Prop) : Prop := if b then p else q
@[congr] theorem frI_congr {b b' : Bool} {p q : Prop} (h : b = b') : frI b p q = frI b' p q := by rw [h]
@[go_sem] theorem frI_t {p q : Prop} : frI true p q = p := by simp [frI]
def frX (N : Nat) (W : List Nat) (st st' : St) : Prop := fr N W st st'
@[go_sem] theorem fr_refl : fr N W st st = True := by simp [fr, agr.refl]
theorem fr_eq {st2 st3 : St} (h : ∀ u, u < N → u ∉ W → agr st2 st3 u) : fr N W st st2 = fr N W st st3 := by
  apply propext
  constructor
  · intro h2 u hu hw; exact (h2 u hu hw).trans (h u hu hw)
  · intro h2 u hu hw; exact (h2 u hu hw).trans (h u hu hw).symm
@[go_sem] theorem fr_put : fr N W st (st1.put t v) = frI (W.contains t || decide (N ≤ t)) (fr N W st st1) (frX N W st (st1.put t v)) := by
  simp only [frI, frX]
  split
  · rename_i h
    refine fr_eq fun u hu hw => (agr.putn v ?_).symm
    rintro rfl
    simp at h
    rcases h with h | h
    · exact hw h
    · omega
  · rfl
@[go_sem] theorem fr_set : fr N W st (st1.set t v) = frI (W.contains t || decide (N ≤ t)) (fr N W st st1) (frX N W st (st1.set t v)) := by
  simp only [frI, frX]
  split
  · rename_i h
    refine fr_eq fun u hu hw => (agr.setn v ?_).symm
    rintro rfl
    simp at h
    rcases h with h | h
    · exact hw h
    · omega
  · rfl
@[go_sem] theorem fr_thru {M : Nat} : fr N W st (st1.thru M t v) = frI ((W.contains t || decide (N ≤ t)) && decide (N ≤ M)) (fr N W st st1) (frX N W st (st1.thru M t v)) := by
  simp only [frI, frX]
  split
  · rename_i h
    simp only [Bool.and_eq_true, Bool.or_eq_true, decide_eq_true_eq, List.contains_iff_mem] at h
    refine fr_eq fun u hu hw => ?_
    have h1 : u ≠ M := by omega
    have h2 : u ≠ t := by
      rintro rfl
      rcases h.1 with h | h
      · exact hw h
      · omega
    exact (((agr.putn v h1).trans (agr.putn _ h1)).trans (agr.putn v h2)).symm
  · rfl
@[go_sem] theorem fr_clear : fr N W st (st1.clear N) = fr N W st st1 := by
  refine fr_eq fun u hu _ => ?_
  simp [agr, St.clear, hu]
end
end
@[congr] theorem dSel_congr {b b' : Bool} {p q : Prop} (h : b = b') : dSel b p q = dSel b' p q := by rw [h]
@[go_sem] theorem dSel_t {p q : Prop} : dSel true p q = p := by simp [dSel]
section
variable {P : Program} {G : Nat → Option Value} {N : Nat} {aft : DA} {fps : List (List Nat × List Nat)} {K : St → Prop} {st st' : St} {d : Option Nat} {rest : List AO} {ex : List Nat} {xs : List X}
@[go_sem] theorem dSel_f {p : Prop} : dSel false p (dFull P G N aft ex d xs rest fps K st st') = ((∀ t ∈ ex ++ (d.toList ++ depsL st xs), t < N) ∧ InvV aft.2 st' ∧ dOps P G N aft rest (fps ++ [(ex ++ fullN N, fullN N)]) K st') := by simp only [dSel, dFull, Bool.false_eq_true, if_false]
end
@[go_sem] theorem rdOp_nil {st : St} {xs : List X} {i : IOp} : rdOp [] st xs i = depsL st xs := by unfold rdOp; split <;> simp
@[go_sem] theorem rdOp_mv {V : List (Nat × Nat)} {p : Nat × Nat} {st : St} {xs : List X} {t : Nat} : rdOp (p :: V) st xs (.mv (.t t)) = if (p :: V).any (fun p => p.1 == t) then [] else depsL st xs := (rfl)
section
variable {V : List (Nat × Nat)} {st : St} {xs : List X}
@[go_sem] theorem rdOp_asg {z0 : X} : rdOp V st xs (.asg z0) = depsL st xs := (rfl)
@[go_sem] theorem rdOp_mva {z0 : X} : rdOp V st xs (.mva z0) = depsL st xs := (rfl)
@[go_sem] theorem rdOp_mvf {z0 : X} : rdOp V st xs (.mvf z0) = depsL st xs := (rfl)
@[go_sem] theorem rdOp_pick {z0 : X} {z1 : X} {z2 : X} : rdOp V st xs (.pick z0 z1 z2) = depsL st xs := (rfl)
@[go_sem] theorem rdOp_alloc {z0 : TypeId} {z1 : List AV} : rdOp V st xs (.alloc z0 z1) = depsL st xs := (rfl)
@[go_sem] theorem rdOp_box {z0 : TypeId} {z1 : Nat} {z2 : X} : rdOp V st xs (.box z0 z1 z2) = depsL st xs := (rfl)
@[go_sem] theorem rdOp_build {z0 : TypeId} {z1 : List AV} {z2 : List (Nat × Nat × Nat × X)} : rdOp V st xs (.build z0 z1 z2) = depsL st xs := (rfl)
@[go_sem] theorem rdOp_bslice {z0 : TypeId} {z1 : TypeId} {z2 : Nat} {z3 : Nat} {z4 : List AV} {z5 : List (Nat × X)} : rdOp V st xs (.bslice z0 z1 z2 z3 z4 z5) = depsL st xs := (rfl)
@[go_sem] theorem rdOp_load {z0 : TypeId} {z1 : Option Nat} {z2 : X} : rdOp V st xs (.load z0 z1 z2) = depsL st xs := (rfl)
@[go_sem] theorem rdOp_store {z0 : TypeId} {z1 : Nat} {z2 : X} {z3 : X} : rdOp V st xs (.store z0 z1 z2 z3) = depsL st xs := (rfl)
@[go_sem] theorem rdOp_nilck {z0 : X} : rdOp V st xs (.nilck z0) = depsL st xs := (rfl)
@[go_sem] theorem rdOp_bin {z0 : BinOp} {z1 : TypeId} {z2 : Nat} {z3 : X} {z4 : X} {z5 : TypeId} : rdOp V st xs (.bin z0 z1 z2 z3 z4 z5) = depsL st xs := (rfl)
@[go_sem] theorem rdOp_un {z0 : UnOp} {z1 : TypeId} {z2 : X} : rdOp V st xs (.un z0 z1 z2) = depsL st xs := (rfl)
@[go_sem] theorem rdOp_eqs {z0 : BinOp} {z1 : TypeId} {z2 : TypeId} {z3 : TypeId} {z4 : X} {z5 : X} {z6 : TypeId} : rdOp V st xs (.eqs z0 z1 z2 z3 z4 z5 z6) = depsL st xs := (rfl)
@[go_sem] theorem rdOp_conv {z0 : TypeId} {z1 : TypeId} {z2 : CK} {z3 : X} : rdOp V st xs (.conv z0 z1 z2 z3) = depsL st xs := (rfl)
@[go_sem] theorem rdOp_mki {z0 : TypeId} {z1 : X} : rdOp V st xs (.mki z0 z1) = depsL st xs := (rfl)
@[go_sem] theorem rdOp_mkf {z0 : FuncId} {z1 : List X} {z2 : List X} : rdOp V st xs (.mkf z0 z1 z2) = depsL st xs := (rfl)
@[go_sem] theorem rdOp_mks {z0 : TypeId} {z1 : TypeId} {z2 : Nat} {z3 : Nat} {z4 : List AV} {z5 : X} {z6 : X} : rdOp V st xs (.mks z0 z1 z2 z3 z4 z5 z6) = depsL st xs := (rfl)
@[go_sem] theorem rdOp_slice {z0 : TypeId} {z1 : Nat} {z2 : X} {z3 : Option X} {z4 : Option X} {z5 : Option X} : rdOp V st xs (.slice z0 z1 z2 z3 z4 z5) = depsL st xs := (rfl)
@[go_sem] theorem rdOp_faddr {z0 : TypeId} {z1 : Nat} {z2 : X} {z3 : Nat} : rdOp V st xs (.faddr z0 z1 z2 z3) = depsL st xs := (rfl)
@[go_sem] theorem rdOp_iaddr {z0 : TypeId} {z1 : Nat} {z2 : X} {z3 : X} : rdOp V st xs (.iaddr z0 z1 z2 z3) = depsL st xs := (rfl)
@[go_sem] theorem rdOp_ext {z0 : X} {z1 : Nat} : rdOp V st xs (.ext z0 z1) = depsL st xs := (rfl)
@[go_sem] theorem rdOp_tas {z0 : X} {z1 : TypeId} {z2 : TypeId} {z3 : List AV} : rdOp V st xs (.tas z0 z1 z2 z3) = depsL st xs := (rfl)
@[go_sem] theorem rdOp_len {z0 : TypeId} {z1 : Bool} {z2 : X} : rdOp V st xs (.len z0 z1 z2) = depsL st xs := (rfl)
@[go_sem] theorem rdOp_app {z0 : TypeId} {z1 : TypeId} {z2 : Nat} {z3 : Nat} {z4 : X} {z5 : X} : rdOp V st xs (.app z0 z1 z2 z3 z4 z5) = depsL st xs := (rfl)
@[go_sem] theorem rdOp_mm {z0 : Bool} {z1 : List TypeId} {z2 : List X} : rdOp V st xs (.mm z0 z1 z2) = depsL st xs := (rfl)
@[go_sem] theorem rdOp_mvc {v : Value} : rdOp V st xs (.mv (.c v)) = depsL st xs := (rfl)
end
section
variable {v : Value} {n sz o t lo e' : Nat} {ks a c : List AV} {q : List Nat} {T : TypeId} {k : AV} {f : FuncId}
@[go_sem] theorem baseOf_dead : baseOf .dead = none := (rfl)
@[go_sem] theorem baseOf_lit : baseOf (.lit v) = none := (rfl)
@[go_sem] theorem baseOf_sl : baseOf (.sl n ks) = none := (rfl)
@[go_sem] theorem baseOf_ip : baseOf (.ip ks o) = none := (rfl)
@[go_sem] theorem baseOf_own : baseOf (.own sz n ks) = none := (rfl)
@[go_sem] theorem baseOf_var : baseOf (.var ks) = none := (rfl)
@[go_sem] theorem baseOf_agg : baseOf (.agg ks) = none := (rfl)
@[go_sem] theorem baseOf_tup : baseOf (.tup ks) = none := (rfl)
@[go_sem] theorem baseOf_ifc : baseOf (.ifc T k) = none := (rfl)
@[go_sem] theorem baseOf_fn : baseOf (.fn f a c) = none := (rfl)
@[go_sem] theorem baseOf_ref : baseOf (.ref t q o e') = some t := (rfl)
@[go_sem] theorem baseOf_bor : baseOf (.bor t q lo n e') = some t := (rfl)
end
attribute [go_sem] opnds depsL deps slL slX Wop wrE Option.toList_some Option.toList_none stoB List.forall_mem_cons
end Go.Ideal
end
