/- Part Nw of the proof: a machine with trees for values, its soundness, and walks on it. -/
import Derived.Test.YtfdhkijgolgnfaaDoorNv
section
set_option linter.unusedVariables false
set_option linter.unusedSimpArgs false
namespace Go.Ideal
section
variable {P : Program} {G : Nat → Option Value} {N : Nat} {aft : DA} {fps : List (List Nat × List Nat)} {K : St → Prop} {Q : Exit → St → Prop} {st : St} {d : Option Nat} {rest ios : List AO}
theorem a2i {aft : List (List Nat)} (h : b3p P G N (aft, []) ios [] (Q .normal) st) : AW P G N (.draw ios aft) Q st := ⟨[], (fun p hp => by simp at hp), (fun p hp => by simp at hp), a7i (aft := (aft, [])) ios [] (Q .normal) st (fun p hp => by simp at hp) h⟩
theorem a56 {aft : List (List Nat)} (V : List (Nat × Nat)) (hN : ∀ p ∈ V, p.1 < N) (hI : b0t V st) (h : b3p P G N (aft, V) ios [] (Q .normal) st) : AW P G N (.draw ios aft) Q st := ⟨V, hN, hI, a7i (aft := (aft, V)) ios [] (Q .normal) st hI h⟩
@[go_sem] theorem f3i : b0t [] st = True := by simp [b0t]
@[go_sem] theorem e8u {t e : Nat} {V : List (Nat × Nat)} : b0t ((t, e) :: V) st = (c5z (st.s t) = true ∧ st.ep t = e ∧ b0t V st) := by
  apply propext
  constructor
  · intro h; exact ⟨(h (t, e) (by simp)).1, (h (t, e) (by simp)).2, fun p hp => h p (by simp [hp])⟩
  · rintro ⟨h1, h2, h3⟩ p hp
    rcases List.mem_cons.1 hp with rfl | hp
    · exact ⟨h1, h2⟩
    · exact h3 p hp
@[go_sem] theorem e2y {ks : List AV} : c5z (.var ks) = true := (rfl)
@[congr] theorem e1x {V : List (Nat × Nat)} {st' : St} (h : st = st') : b0t V st = b0t V st' := by rw [h]
theorem a13 {aft : List (List Nat)} {V : List (Nat × Nat)} (h : c1z aft fps = true) (h2 : ∀ s, (∀ t, t < N → s.s t = st.s t) → (∀ t, t < N → s.ep t = st.ep t) → K s) : f6s N (aft, V) fps K st :=
  ⟨h, fun s hs => h2 s (fun t ht => (hs t ht).1) (fun t ht => (hs t ht).2)⟩
@[congr] theorem e1m {ios' : List AO} {fps' : List (List Nat × List Nat)} {st' : St} (h : ios = ios') (h2 : fps = fps') (h3 : st = st') : b3p P G N aft ios fps K st = b3p P G N aft ios' fps' K st' := by rw [h, h2, h3]
@[go_sem] theorem f1h : b3p P G N aft [] fps K st = f6s N aft fps K st := (rfl)
def d6g (N : Nat) : List Nat := List.range N
def d63 (P : Program) (G : Nat → Option Value) (N : Nat) (aft : DA) (ex : List Nat) (d : Option Nat) (xs : List X) (rest : List AO) (fps : List (List Nat × List Nat)) (K : St → Prop) (st st' : St) : Prop :=
  (∀ t ∈ ex ++ (d.toList ++ a00 st xs), t < N) ∧ b0t aft.2 st' ∧ b3p P G N aft rest (fps ++ [(ex ++ d6g N, d6g N)]) K st'
def dE (P : Program) (G : Nat → Option Value) (N : Nat) (aft : DA) (ex : List Nat) (d : Option Nat) (i : IOp) (rest : List AO) (fps : List (List Nat × List Nat)) (K : St → Prop) (st : St) (o : Option (List X)) (e : Option St) : Prop := match o, e with
  | some xs, some st' => d5x (e1w N st i) ((∀ t ∈ ex ++ (d.toList ++ a00 st xs), t < N) ∧ (∀ t ∈ Wop st d i, t < N) ∧ fr N (Wop st d i) st st' ∧ b0t aft.2 st' ∧ b3p P G N aft rest (fps ++ [(ex ++ (d.toList ++ a8y aft.2 st xs i), Wop st d i)]) K st') (d63 P G N aft ex d xs rest fps K st st')
  | _, _ => False
@[congr] theorem f0x {ex : List Nat} {i : IOp} {o o' : Option (List X)} {e e' : Option St} (h : o = o') (h2 : e = e') : dE P G N aft ex d i rest fps K st o e = dE P G N aft ex d i rest fps K st o' e' := by rw [h, h2]
@[go_sem] theorem g0a {ex : List Nat} {i : IOp} {xs : List X} {st' : St} : dE P G N aft ex d i rest fps K st (some xs) (some st') = d5x (e1w N st i) ((∀ t ∈ ex ++ (d.toList ++ a00 st xs), t < N) ∧ (∀ t ∈ Wop st d i, t < N) ∧ fr N (Wop st d i) st st' ∧ b0t aft.2 st' ∧ b3p P G N aft rest (fps ++ [(ex ++ (d.toList ++ a8y aft.2 st xs i), Wop st d i)]) K st') (d63 P G N aft ex d xs rest fps K st st') := (rfl)
@[go_sem] theorem f8b {i : IOp} : b3p P G N aft (⟨d, .op i, none⟩ :: rest) fps K st = dE P G N aft [] d i rest fps K st (b5a i) (evS G N d i st) := by
  simp only [b3p, d65, dE]
  cases b5a i <;> cases evS G N d i st <;> rfl
def dGd (P : Program) (G : Nat → Option Value) (N : Nat) (aft : DA) (v : AV) (want : Bool) (t : Nat) (d : Option Nat) (i : IOp) (rest : List AO) (fps : List (List Nat × List Nat)) (K : St → Prop) (st : St) : Prop := match v with
  | .lit v => if c63 want v then dE P G N aft [t] d i rest fps K st (b5a i) (evS G N d i st) else (∀ u ∈ t :: d.toList, u < N) ∧ b0t aft.2 (a6g d st) ∧ b3p P G N aft rest (fps ++ [([t], d.toList)]) K (a6g d st)
  | _ => False
section
variable {t : Nat} {i : IOp}
@[congr] theorem e9g {v v' : AV} {w : Bool} (h : v = v') : dGd P G N aft v w t d i rest fps K st = dGd P G N aft v' w t d i rest fps K st := by rw [h]
@[go_sem] theorem g1x {j : Nat} {want : Bool} : b3p P G N aft (⟨d, .op i, some (j, t, want)⟩ :: rest) fps K st = dGd P G N aft (st.s t) want t d i rest fps K st := by
  simp only [b3p, dGd]
  cases st.s t <;> try rfl
@[go_sem] theorem g1y : dGd P G N aft (.lit (.bool true)) true t d i rest fps K st = dE P G N aft [t] d i rest fps K st (b5a i) (evS G N d i st) := (rfl)
@[go_sem] theorem g2l : dGd P G N aft (.lit (.bool false)) false t d i rest fps K st = dE P G N aft [t] d i rest fps K st (b5a i) (evS G N d i st) := (rfl)
@[go_sem] theorem g1d : dGd P G N aft (.lit (.bool true)) false t d i rest fps K st = ((∀ u ∈ t :: d.toList, u < N) ∧ b0t aft.2 (a6g d st) ∧ b3p P G N aft rest (fps ++ [([t], d.toList)]) K (a6g d st)) := (rfl)
@[go_sem] theorem g27 : dGd P G N aft (.lit (.bool false)) true t d i rest fps K st = ((∀ u ∈ t :: d.toList, u < N) ∧ b0t aft.2 (a6g d st) ∧ b3p P G N aft rest (fps ++ [([t], d.toList)]) K (a6g d st)) := (rfl)
end
def d8b (P : Program) (G : Nat → Option Value) (N : Nat) (aft : DA) (d : Option Nat) (f : FuncId) (pre : List AV) (rd : List Nat) (rest : List AO) (fps : List (List Nat × List Nat)) (K : St → Prop) (st st1 st2 : St) : Prop :=
  ∃ res W, ACalls P G f pre res ∧ a0l res = true ∧ (∀ t ∈ rd, t < N) ∧ (∀ t ∈ W, t < N) ∧ fr N W st (b3o (if a0r res then st1 else st2) N d res) ∧ b0t aft.2 (b3o (if a0r res then st1 else st2) N d res) ∧ b3p P G N aft rest (fps ++ [(rd, W)]) K (b3o (if a0r res then st1 else st2) N d res)
def e1u (P : Program) (G : Nat → Option Value) (N : Nat) (aft : DA) (d : Option Nat) (f : FuncId) (args : List (Bool × X)) (rest : List AO) (fps : List (List Nat × List Nat)) (K : St → Prop) (st : St) (o1 o2 : Option St) : Prop := match o1, o2 with
  | some st1, some st2 => d8b P G N aft d f (a5v N args.length st2) (d.toList ++ a00 st (args.map (·.2))) rest fps K st st1 st2
  | _, _ => False
def e96 (P : Program) (G : Nat → Option Value) (N : Nat) (aft : DA) (d : Option Nat) (f : FuncId) (args : List (Bool × X)) (rest : List AO) (fps : List (List Nat × List Nat)) (K : St → Prop) (st : St) (o1 : Option St) : Prop := e1u P G N aft d f args rest fps K st o1 (pss N (N + 2) args o1)
section
variable {f : FuncId} {args : List (Bool × X)}
@[congr] theorem e2f {o o' : Option St} (h : o = o') : e96 P G N aft d f args rest fps K st o = e96 P G N aft d f args rest fps K st o' := by rw [h]
@[congr] theorem e2i {o1 o o' : Option St} (h : o = o') : e1u P G N aft d f args rest fps K st o1 o = e1u P G N aft d f args rest fps K st o1 o' := by rw [h]
@[congr] theorem e3p {pre pre' : List AV} {rd rd' : List Nat} {st1 st2 : St} (h : pre = pre') (h2 : rd = rd') : d8b P G N aft d f pre rd rest fps K st st1 st2 = d8b P G N aft d f pre' rd' rest fps K st st1 st2 := by rw [h, h2]
@[go_sem] theorem e44 {st1 : St} : e96 P G N aft d f args rest fps K st (some st1) = e1u P G N aft d f args rest fps K st (some st1) (pss N (N + 2) args (some st1)) := (rfl)
@[go_sem] theorem e7m {st1 st2 : St} : e1u P G N aft d f args rest fps K st (some st1) (some st2) = d8b P G N aft d f (a5v N args.length st2) (d.toList ++ a00 st (args.map (·.2))) rest fps K st st1 st2 := (rfl)
@[go_sem] theorem e53 {tys : List TypeId} : b3p P G N aft (⟨d, .call f args tys, none⟩ :: rest) fps K st = e96 P G N aft d f args rest fps K st (gvs N (N + 2) args (some st)) := by
  simp only [b3p, d65, e96, e1u, d8b]
  cases gvs N (N + 2) args (some st) with
  | none => rfl
  | some st1 =>
    simp only
    cases pss N (N + 2) args (some st1) <;> rfl
theorem a3r {pre : List AV} {rd : List Nat} {st1 st2 : St} {res : AV} (hA : ACalls P G f pre res) (hn : a0l res = true) (hi : a0r res = true) (hrd : ∀ t ∈ rd, t < N) (W : List Nat) (hW : ∀ t ∈ W, t < N) (hf : fr N W st (b3o st1 N d res)) (h : b0t aft.2 (b3o st1 N d res) ∧ b3p P G N aft rest (fps ++ [(rd, W)]) K (b3o st1 N d res)) : d8b P G N aft d f pre rd rest fps K st st1 st2 :=
  ⟨res, W, hA, hn, hrd, hW, by rw [hi]; exact hf, by rw [hi]; exact h⟩
theorem d7l {pre : List AV} {rd : List Nat} {st1 st2 : St} {res : AV} (hA : ACalls P G f pre res) (hn : a0l res = true) (hi : a0r res = false) (hrd : ∀ t ∈ rd, t < N) (W : List Nat) (hW : ∀ t ∈ W, t < N) (hf : fr N W st (b3o st2 N d res)) (h : b0t aft.2 (b3o st2 N d res) ∧ b3p P G N aft rest (fps ++ [(rd, W)]) K (b3o st2 N d res)) : d8b P G N aft d f pre rd rest fps K st st1 st2 :=
  ⟨res, W, hA, hn, hrd, hW, by rw [hi]; exact hf, by rw [hi]; exact h⟩
end
section
variable {W : List Nat} {st1 : St} {t : Nat} {v : AV}
def frI (b : Bool) (p q : Prop) : Prop := if b then p else q
@[congr] theorem e94 {b b' : Bool} {p q : Prop} (h : b = b') : frI b p q = frI b' p q := by rw [h]
@[go_sem] theorem g47 {p q : Prop} : frI true p q = p := by simp [frI]
def frX (N : Nat) (W : List Nat) (st st' : St) : Prop := fr N W st st'
@[go_sem] theorem f8y : fr N W st st = True := by simp [fr, agr.refl]
theorem d6m {st2 st3 : St} (h : ∀ u, u < N → u ∉ W → agr st2 st3 u) : fr N W st st2 = fr N W st st3 := by
  apply propext
  constructor
  · intro h2 u hu hw; exact (h2 u hu hw).trans (h u hu hw)
  · intro h2 u hu hw; exact (h2 u hu hw).trans (h u hu hw).symm
@[go_sem] theorem g2y : fr N W st (st1.put t v) = frI (W.contains t || decide (N ≤ t)) (fr N W st st1) (frX N W st (st1.put t v)) := by
  simp only [frI, frX]
  split
  · rename_i h
    refine d6m fun u hu hw => (agr.putn v ?_).symm
    rintro rfl
    simp at h
    rcases h with h | h
    · exact hw h
    · omega
  · rfl
@[go_sem] theorem g08 : fr N W st (st1.set t v) = frI (W.contains t || decide (N ≤ t)) (fr N W st st1) (frX N W st (st1.set t v)) := by
  simp only [frI, frX]
  split
  · rename_i h
    refine d6m fun u hu hw => (agr.setn v ?_).symm
    rintro rfl
    simp at h
    rcases h with h | h
    · exact hw h
    · omega
  · rfl
@[go_sem] theorem f6l {M : Nat} : fr N W st (st1.thru M t v) = frI ((W.contains t || decide (N ≤ t)) && decide (N ≤ M)) (fr N W st st1) (frX N W st (st1.thru M t v)) := by
  simp only [frI, frX]
  split
  · rename_i h
    simp only [Bool.and_eq_true, Bool.or_eq_true, decide_eq_true_eq, List.contains_iff_mem] at h
    refine d6m fun u hu hw => ?_
    have h1 : u ≠ M := by omega
    have h2 : u ≠ t := by
      rintro rfl
      rcases h.1 with h | h
      · exact hw h
      · omega
    exact (((agr.putn v h1).trans (agr.putn _ h1)).trans (agr.putn v h2)).symm
  · rfl
@[go_sem] theorem f03 : fr N W st (st1.clear N) = fr N W st st1 := by
  refine d6m fun u hu _ => ?_
  simp [agr, St.clear, hu]
end
end
@[congr] theorem e3d {b b' : Bool} {p q : Prop} (h : b = b') : d5x b p q = d5x b' p q := by rw [h]
@[go_sem] theorem g30 {p q : Prop} : d5x true p q = p := by simp [d5x]
section
variable {P : Program} {G : Nat → Option Value} {N : Nat} {aft : DA} {fps : List (List Nat × List Nat)} {K : St → Prop} {st st' : St} {d : Option Nat} {rest : List AO} {ex : List Nat} {xs : List X}
@[go_sem] theorem g2v {p : Prop} : d5x false p (d63 P G N aft ex d xs rest fps K st st') = ((∀ t ∈ ex ++ (d.toList ++ a00 st xs), t < N) ∧ b0t aft.2 st' ∧ b3p P G N aft rest (fps ++ [(ex ++ d6g N, d6g N)]) K st') := by simp only [d5x, d63, Bool.false_eq_true, if_false]
end
@[go_sem] theorem f1z {st : St} {xs : List X} {i : IOp} : a8y [] st xs i = a00 st xs := by unfold a8y; split <;> simp
@[go_sem] theorem f6t {V : List (Nat × Nat)} {p : Nat × Nat} {st : St} {xs : List X} {t : Nat} : a8y (p :: V) st xs (.mv (.t t)) = if (p :: V).any (fun p => p.1 == t) then [] else a00 st xs := (rfl)
section
variable {V : List (Nat × Nat)} {st : St} {xs : List X}
@[go_sem] theorem f00 {z0 : X} : a8y V st xs (.asg z0) = a00 st xs := (rfl)
@[go_sem] theorem f21 {z0 : X} : a8y V st xs (.mva z0) = a00 st xs := (rfl)
@[go_sem] theorem f2u {z0 : X} : a8y V st xs (.mvf z0) = a00 st xs := (rfl)
@[go_sem] theorem e4u {z0 : X} {z1 : X} {z2 : X} : a8y V st xs (.pick z0 z1 z2) = a00 st xs := (rfl)
@[go_sem] theorem e2x {z0 : TypeId} {z1 : List AV} : a8y V st xs (.alloc z0 z1) = a00 st xs := (rfl)
@[go_sem] theorem f1l {z0 : TypeId} {z1 : Nat} {z2 : X} : a8y V st xs (.box z0 z1 z2) = a00 st xs := (rfl)
@[go_sem] theorem e1l {z0 : TypeId} {z1 : List AV} {z2 : List (Nat × Nat × Nat × X)} : a8y V st xs (.build z0 z1 z2) = a00 st xs := (rfl)
@[go_sem] theorem e1d {z0 : TypeId} {z1 : TypeId} {z2 : Nat} {z3 : Nat} {z4 : List AV} {z5 : List (Nat × X)} : a8y V st xs (.bslice z0 z1 z2 z3 z4 z5) = a00 st xs := (rfl)
@[go_sem] theorem e7r {z0 : TypeId} {z1 : Option Nat} {z2 : X} : a8y V st xs (.load z0 z1 z2) = a00 st xs := (rfl)
@[go_sem] theorem e28 {z0 : TypeId} {z1 : Nat} {z2 : X} {z3 : X} : a8y V st xs (.store z0 z1 z2 z3) = a00 st xs := (rfl)
@[go_sem] theorem e2m {z0 : X} : a8y V st xs (.nilck z0) = a00 st xs := (rfl)
@[go_sem] theorem f45 {z0 : BinOp} {z1 : TypeId} {z2 : Nat} {z3 : X} {z4 : X} {z5 : TypeId} : a8y V st xs (.bin z0 z1 z2 z3 z4 z5) = a00 st xs := (rfl)
@[go_sem] theorem g0s {z0 : UnOp} {z1 : TypeId} {z2 : X} : a8y V st xs (.un z0 z1 z2) = a00 st xs := (rfl)
@[go_sem] theorem f0y {z0 : BinOp} {z1 : TypeId} {z2 : TypeId} {z3 : TypeId} {z4 : X} {z5 : X} {z6 : TypeId} : a8y V st xs (.eqs z0 z1 z2 z3 z4 z5 z6) = a00 st xs := (rfl)
@[go_sem] theorem e49 {z0 : TypeId} {z1 : TypeId} {z2 : CK} {z3 : X} : a8y V st xs (.conv z0 z1 z2 z3) = a00 st xs := (rfl)
@[go_sem] theorem f3b {z0 : TypeId} {z1 : X} : a8y V st xs (.mki z0 z1) = a00 st xs := (rfl)
@[go_sem] theorem f4b {z0 : FuncId} {z1 : List X} {z2 : List X} : a8y V st xs (.mkf z0 z1 z2) = a00 st xs := (rfl)
@[go_sem] theorem f02 {z0 : TypeId} {z1 : TypeId} {z2 : Nat} {z3 : Nat} {z4 : List AV} {z5 : X} {z6 : X} : a8y V st xs (.mks z0 z1 z2 z3 z4 z5 z6) = a00 st xs := (rfl)
@[go_sem] theorem e2c {z0 : TypeId} {z1 : Nat} {z2 : X} {z3 : Option X} {z4 : Option X} {z5 : Option X} : a8y V st xs (.slice z0 z1 z2 z3 z4 z5) = a00 st xs := (rfl)
@[go_sem] theorem e2s {z0 : TypeId} {z1 : Nat} {z2 : X} {z3 : Nat} : a8y V st xs (.faddr z0 z1 z2 z3) = a00 st xs := (rfl)
@[go_sem] theorem e1n {z0 : TypeId} {z1 : Nat} {z2 : X} {z3 : X} : a8y V st xs (.iaddr z0 z1 z2 z3) = a00 st xs := (rfl)
@[go_sem] theorem f3s {z0 : X} {z1 : Nat} : a8y V st xs (.ext z0 z1) = a00 st xs := (rfl)
@[go_sem] theorem f2c {z0 : X} {z1 : TypeId} {z2 : TypeId} {z3 : List AV} : a8y V st xs (.tas z0 z1 z2 z3) = a00 st xs := (rfl)
@[go_sem] theorem f4d {z0 : TypeId} {z1 : Bool} {z2 : X} : a8y V st xs (.len z0 z1 z2) = a00 st xs := (rfl)
@[go_sem] theorem f4f {z0 : TypeId} {z1 : TypeId} {z2 : Nat} {z3 : Nat} {z4 : X} {z5 : X} : a8y V st xs (.app z0 z1 z2 z3 z4 z5) = a00 st xs := (rfl)
@[go_sem] theorem f9u {z0 : Bool} {z1 : List TypeId} {z2 : List X} : a8y V st xs (.mm z0 z1 z2) = a00 st xs := (rfl)
@[go_sem] theorem f3y {v : Value} : a8y V st xs (.mv (.c v)) = a00 st xs := (rfl)
end
section
variable {v : Value} {n sz o t lo e' : Nat} {ks a c : List AV} {q : List Nat} {T : TypeId} {k : AV} {f : FuncId}
@[go_sem] theorem d96 : a19 .dead = none := (rfl)
@[go_sem] theorem e20 : a19 (.lit v) = none := (rfl)
@[go_sem] theorem e9z : a19 (.sl n ks) = none := (rfl)
@[go_sem] theorem e6v : a19 (.ip ks o) = none := (rfl)
@[go_sem] theorem e4d : a19 (.own sz n ks) = none := (rfl)
@[go_sem] theorem e1r : a19 (.var ks) = none := (rfl)
@[go_sem] theorem e4c : a19 (.agg ks) = none := (rfl)
@[go_sem] theorem e3c : a19 (.tup ks) = none := (rfl)
@[go_sem] theorem e3o : a19 (.ifc T k) = none := (rfl)
@[go_sem] theorem e9x : a19 (.fn f a c) = none := (rfl)
@[go_sem] theorem e2j : a19 (.ref t q o e') = some t := (rfl)
@[go_sem] theorem e3w : a19 (.bor t q lo n e') = some t := (rfl)
end
attribute [go_sem] b5a a00 e37 slL slX Wop wrE Option.toList_some Option.toList_none e1w List.forall_mem_cons
end Go.Ideal
end
