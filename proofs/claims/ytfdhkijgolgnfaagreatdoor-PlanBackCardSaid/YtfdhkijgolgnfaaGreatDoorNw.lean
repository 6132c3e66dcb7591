/- Part Nw of the proof: a machine with trees for values, its soundness, and walks on it. -/
import Derived.Test.YtfdhkijgolgnfaaGreatDoorNv
section
set_option linter.unusedVariables false
set_option linter.unusedSimpArgs false
namespace Go.Ideal
section
variable {P : Program} {G : Nat → Option Value} {N : Nat} {aft : DA} {fps : List (List Nat × List Nat)} {K : St → Prop} {Q : Exit → St → Prop} {st : St} {d : Option Nat} {rest ios : List AO}
theorem a1r {aft : List (List Nat)} (h : b83 P G N (aft, []) ios [] (Q .normal) st) : AW P G N (.draw ios aft) Q st := ⟨[], (fun p hp => by simp at hp), (fun p hp => by simp at hp), a93 (aft := (aft, [])) ios [] (Q .normal) st (fun p hp => by simp at hp) h⟩
theorem a7w {aft : List (List Nat)} (V : List (Nat × Nat)) (hN : ∀ p ∈ V, p.1 < N) (hI : b4q V st) (h : b83 P G N (aft, V) ios [] (Q .normal) st) : AW P G N (.draw ios aft) Q st := ⟨V, hN, hI, a93 (aft := (aft, V)) ios [] (Q .normal) st hI h⟩
@[go_sem] theorem g7i : b4q [] st = True := by simp [b4q]
@[go_sem] theorem g34 {t e : Nat} {V : List (Nat × Nat)} : b4q ((t, e) :: V) st = (d7i (st.s t) = true ∧ st.ep t = e ∧ b4q V st) := by
  apply propext
  constructor
  · intro h; exact ⟨(h (t, e) (by simp)).1, (h (t, e) (by simp)).2, fun p hp => h p (by simp [hp])⟩
  · rintro ⟨h1, h2, h3⟩ p hp
    rcases List.mem_cons.1 hp with rfl | hp
    · exact ⟨h1, h2⟩
    · exact h3 p hp
@[go_sem] theorem f4p {ks : List AV} : d7i (.var ks) = true := (rfl)
@[congr] theorem f6m {V : List (Nat × Nat)} {st' : St} (h : st = st') : b4q V st = b4q V st' := by rw [h]
theorem a1q {aft : List (List Nat)} {V : List (Nat × Nat)} (h : c9d aft fps = true) (h2 : ∀ s, (∀ t, t < N → s.s t = st.s t) → (∀ t, t < N → s.ep t = st.ep t) → K s) : h0s N (aft, V) fps K st :=
  ⟨h, fun s hs => h2 s (fun t ht => (hs t ht).1) (fun t ht => (hs t ht).2)⟩
@[congr] theorem f4j {ios' : List AO} {fps' : List (List Nat × List Nat)} {st' : St} (h : ios = ios') (h2 : fps = fps') (h3 : st = st') : b83 P G N aft ios fps K st = b83 P G N aft ios' fps' K st' := by rw [h, h2, h3]
@[go_sem] theorem g50 : b83 P G N aft [] fps K st = h0s N aft fps K st := (rfl)
def e8d (N : Nat) : List Nat := List.range N
def e6m (P : Program) (G : Nat → Option Value) (N : Nat) (aft : DA) (ex : List Nat) (d : Option Nat) (xs : List X) (rest : List AO) (fps : List (List Nat × List Nat)) (K : St → Prop) (st st' : St) : Prop :=
  (∀ t ∈ ex ++ (d.toList ++ a05 st xs), t < N) ∧ b4q aft.2 st' ∧ b83 P G N aft rest (fps ++ [(ex ++ e8d N, e8d N)]) K st'
def dE (P : Program) (G : Nat → Option Value) (N : Nat) (aft : DA) (ex : List Nat) (d : Option Nat) (i : IOp) (rest : List AO) (fps : List (List Nat × List Nat)) (K : St → Prop) (st : St) (o : Option (List X)) (e : Option St) : Prop := match o, e with
  | some xs, some st' => e58 (f5g N st i) ((∀ t ∈ ex ++ (d.toList ++ a05 st xs), t < N) ∧ (∀ t ∈ Wop st d i, t < N) ∧ fr N (Wop st d i) st st' ∧ b4q aft.2 st' ∧ b83 P G N aft rest (fps ++ [(ex ++ (d.toList ++ b1s aft.2 st xs i), Wop st d i)]) K st') (e6m P G N aft ex d xs rest fps K st st')
  | _, _ => False
@[congr] theorem g5b {ex : List Nat} {i : IOp} {o o' : Option (List X)} {e e' : Option St} (h : o = o') (h2 : e = e') : dE P G N aft ex d i rest fps K st o e = dE P G N aft ex d i rest fps K st o' e' := by rw [h, h2]
@[go_sem] theorem g8i {ex : List Nat} {i : IOp} {xs : List X} {st' : St} : dE P G N aft ex d i rest fps K st (some xs) (some st') = e58 (f5g N st i) ((∀ t ∈ ex ++ (d.toList ++ a05 st xs), t < N) ∧ (∀ t ∈ Wop st d i, t < N) ∧ fr N (Wop st d i) st st' ∧ b4q aft.2 st' ∧ b83 P G N aft rest (fps ++ [(ex ++ (d.toList ++ b1s aft.2 st xs i), Wop st d i)]) K st') (e6m P G N aft ex d xs rest fps K st st') := (rfl)
@[go_sem] theorem g82 {i : IOp} : b83 P G N aft (⟨d, .op i, none⟩ :: rest) fps K st = dE P G N aft [] d i rest fps K st (c1v i) (evS G N d i st) := by
  simp only [b83, e7i, dE]
  cases c1v i <;> cases evS G N d i st <;> rfl
def dGd (P : Program) (G : Nat → Option Value) (N : Nat) (aft : DA) (v : AV) (want : Bool) (t : Nat) (d : Option Nat) (i : IOp) (rest : List AO) (fps : List (List Nat × List Nat)) (K : St → Prop) (st : St) : Prop := match v with
  | .lit v => if d5u want v then dE P G N aft [t] d i rest fps K st (c1v i) (evS G N d i st) else (∀ u ∈ t :: d.toList, u < N) ∧ b4q aft.2 (a67 d st) ∧ b83 P G N aft rest (fps ++ [([t], d.toList)]) K (a67 d st)
  | _ => False
section
variable {t : Nat} {i : IOp}
@[congr] theorem g27 {v v' : AV} {w : Bool} (h : v = v') : dGd P G N aft v w t d i rest fps K st = dGd P G N aft v' w t d i rest fps K st := by rw [h]
@[go_sem] theorem h6y {j : Nat} {want : Bool} : b83 P G N aft (⟨d, .op i, some (j, t, want)⟩ :: rest) fps K st = dGd P G N aft (st.s t) want t d i rest fps K st := by
  simp only [b83, dGd]
  cases st.s t <;> try rfl
@[go_sem] theorem h6h : dGd P G N aft (.lit (.bool true)) true t d i rest fps K st = dE P G N aft [t] d i rest fps K st (c1v i) (evS G N d i st) := (rfl)
@[go_sem] theorem h6z : dGd P G N aft (.lit (.bool false)) false t d i rest fps K st = dE P G N aft [t] d i rest fps K st (c1v i) (evS G N d i st) := (rfl)
@[go_sem] theorem h7v : dGd P G N aft (.lit (.bool true)) false t d i rest fps K st = ((∀ u ∈ t :: d.toList, u < N) ∧ b4q aft.2 (a67 d st) ∧ b83 P G N aft rest (fps ++ [([t], d.toList)]) K (a67 d st)) := (rfl)
@[go_sem] theorem h4r : dGd P G N aft (.lit (.bool false)) true t d i rest fps K st = ((∀ u ∈ t :: d.toList, u < N) ∧ b4q aft.2 (a67 d st) ∧ b83 P G N aft rest (fps ++ [([t], d.toList)]) K (a67 d st)) := (rfl)
end
def e9a (P : Program) (G : Nat → Option Value) (N : Nat) (aft : DA) (d : Option Nat) (f : FuncId) (pre : List AV) (rd : List Nat) (rest : List AO) (fps : List (List Nat × List Nat)) (K : St → Prop) (st st1 st2 : St) : Prop :=
  ∃ res W, ACalls P G f pre res ∧ a0k res = true ∧ (∀ t ∈ rd, t < N) ∧ (∀ t ∈ W, t < N) ∧ fr N W st (b82 (if a0w res then st1 else st2) N d res) ∧ b4q aft.2 (b82 (if a0w res then st1 else st2) N d res) ∧ b83 P G N aft rest (fps ++ [(rd, W)]) K (b82 (if a0w res then st1 else st2) N d res)
def f4f (P : Program) (G : Nat → Option Value) (N : Nat) (aft : DA) (d : Option Nat) (f : FuncId) (args : List (Bool × X)) (rest : List AO) (fps : List (List Nat × List Nat)) (K : St → Prop) (st : St) (o1 o2 : Option St) : Prop := match o1, o2 with
  | some st1, some st2 => e9a P G N aft d f (a7b N args.length st2) (d.toList ++ a05 st (args.map (·.2))) rest fps K st st1 st2
  | _, _ => False
def g1i (P : Program) (G : Nat → Option Value) (N : Nat) (aft : DA) (d : Option Nat) (f : FuncId) (args : List (Bool × X)) (rest : List AO) (fps : List (List Nat × List Nat)) (K : St → Prop) (st : St) (o1 : Option St) : Prop := f4f P G N aft d f args rest fps K st o1 (pss N (N + 2) args o1)
section
variable {f : FuncId} {args : List (Bool × X)}
@[congr] theorem f3t {o o' : Option St} (h : o = o') : g1i P G N aft d f args rest fps K st o = g1i P G N aft d f args rest fps K st o' := by rw [h]
@[congr] theorem f6i {o1 o o' : Option St} (h : o = o') : f4f P G N aft d f args rest fps K st o1 o = f4f P G N aft d f args rest fps K st o1 o' := by rw [h]
@[congr] theorem f5h {pre pre' : List AV} {rd rd' : List Nat} {st1 st2 : St} (h : pre = pre') (h2 : rd = rd') : e9a P G N aft d f pre rd rest fps K st st1 st2 = e9a P G N aft d f pre' rd' rest fps K st st1 st2 := by rw [h, h2]
@[go_sem] theorem g20 {st1 : St} : g1i P G N aft d f args rest fps K st (some st1) = f4f P G N aft d f args rest fps K st (some st1) (pss N (N + 2) args (some st1)) := (rfl)
@[go_sem] theorem g31 {st1 st2 : St} : f4f P G N aft d f args rest fps K st (some st1) (some st2) = e9a P G N aft d f (a7b N args.length st2) (d.toList ++ a05 st (args.map (·.2))) rest fps K st st1 st2 := (rfl)
@[go_sem] theorem f7v {tys : List TypeId} : b83 P G N aft (⟨d, .call f args tys, none⟩ :: rest) fps K st = g1i P G N aft d f args rest fps K st (gvs N (N + 2) args (some st)) := by
  simp only [b83, e7i, g1i, f4f, e9a]
  cases gvs N (N + 2) args (some st) with
  | none => rfl
  | some st1 =>
    simp only
    cases pss N (N + 2) args (some st1) <;> rfl
theorem a16 {pre : List AV} {rd : List Nat} {st1 st2 : St} {res : AV} (hA : ACalls P G f pre res) (hn : a0k res = true) (hi : a0w res = true) (hrd : ∀ t ∈ rd, t < N) (W : List Nat) (hW : ∀ t ∈ W, t < N) (hf : fr N W st (b82 st1 N d res)) (h : b4q aft.2 (b82 st1 N d res) ∧ b83 P G N aft rest (fps ++ [(rd, W)]) K (b82 st1 N d res)) : e9a P G N aft d f pre rd rest fps K st st1 st2 :=
  ⟨res, W, hA, hn, hrd, hW, by rw [hi]; exact hf, by rw [hi]; exact h⟩
theorem e8t {pre : List AV} {rd : List Nat} {st1 st2 : St} {res : AV} (hA : ACalls P G f pre res) (hn : a0k res = true) (hi : a0w res = false) (hrd : ∀ t ∈ rd, t < N) (W : List Nat) (hW : ∀ t ∈ W, t < N) (hf : fr N W st (b82 st2 N d res)) (h : b4q aft.2 (b82 st2 N d res) ∧ b83 P G N aft rest (fps ++ [(rd, W)]) K (b82 st2 N d res)) : e9a P G N aft d f pre rd rest fps K st st1 st2 :=
  ⟨res, W, hA, hn, hrd, hW, by rw [hi]; exact hf, by rw [hi]; exact h⟩
end
section
variable {W : List Nat} {st1 : St} {t : Nat} {v : AV}
def frI (b : Bool) (p q : Prop) : Prop := if b then p else q
@[congr] theorem g2z {b b' : Bool} {p q : Prop} (h : b = b') : frI b p q = frI b' p q := by rw [h]
@[go_sem] theorem h8l {p q : Prop} : frI true p q = p := by simp [frI]
def frX (N : Nat) (W : List Nat) (st st' : St) : Prop := fr N W st st'
@[go_sem] theorem h1x : fr N W st st = True := by simp [fr, agr.refl]
theorem e6k {st2 st3 : St} (h : ∀ u, u < N → u ∉ W → agr st2 st3 u) : fr N W st st2 = fr N W st st3 := by
  apply propext
  constructor
  · intro h2 u hu hw; exact (h2 u hu hw).trans (h u hu hw)
  · intro h2 u hu hw; exact (h2 u hu hw).trans (h u hu hw).symm
@[go_sem] theorem h5o : fr N W st (st1.put t v) = frI (W.contains t || decide (N ≤ t)) (fr N W st st1) (frX N W st (st1.put t v)) := by
  simp only [frI, frX]
  split
  · rename_i h
    refine e6k fun u hu hw => (agr.putn v ?_).symm
    rintro rfl
    simp at h
    rcases h with h | h
    · exact hw h
    · omega
  · rfl
@[go_sem] theorem h5i : fr N W st (st1.set t v) = frI (W.contains t || decide (N ≤ t)) (fr N W st st1) (frX N W st (st1.set t v)) := by
  simp only [frI, frX]
  split
  · rename_i h
    refine e6k fun u hu hw => (agr.setn v ?_).symm
    rintro rfl
    simp at h
    rcases h with h | h
    · exact hw h
    · omega
  · rfl
@[go_sem] theorem g9w {M : Nat} : fr N W st (st1.thru M t v) = frI ((W.contains t || decide (N ≤ t)) && decide (N ≤ M)) (fr N W st st1) (frX N W st (st1.thru M t v)) := by
  simp only [frI, frX]
  split
  · rename_i h
    simp only [Bool.and_eq_true, Bool.or_eq_true, decide_eq_true_eq, List.contains_iff_mem] at h
    refine e6k fun u hu hw => ?_
    have h1 : u ≠ M := by omega
    have h2 : u ≠ t := by
      rintro rfl
      rcases h.1 with h | h
      · exact hw h
      · omega
    exact (((agr.putn v h1).trans (agr.putn _ h1)).trans (agr.putn v h2)).symm
  · rfl
@[go_sem] theorem g4g : fr N W st (st1.clear N) = fr N W st st1 := by
  refine e6k fun u hu _ => ?_
  simp [agr, St.clear, hu]
end
end
@[congr] theorem f2p {b b' : Bool} {p q : Prop} (h : b = b') : e58 b p q = e58 b' p q := by rw [h]
@[go_sem] theorem h6u {p q : Prop} : e58 true p q = p := by simp [e58]
section
variable {P : Program} {G : Nat → Option Value} {N : Nat} {aft : DA} {fps : List (List Nat × List Nat)} {K : St → Prop} {st st' : St} {d : Option Nat} {rest : List AO} {ex : List Nat} {xs : List X}
@[go_sem] theorem h6o {p : Prop} : e58 false p (e6m P G N aft ex d xs rest fps K st st') = ((∀ t ∈ ex ++ (d.toList ++ a05 st xs), t < N) ∧ b4q aft.2 st' ∧ b83 P G N aft rest (fps ++ [(ex ++ e8d N, e8d N)]) K st') := by simp only [e58, e6m, Bool.false_eq_true, if_false]
end
@[go_sem] theorem g5w {st : St} {xs : List X} {i : IOp} : b1s [] st xs i = a05 st xs := by unfold b1s; split <;> simp
@[go_sem] theorem h0c {V : List (Nat × Nat)} {p : Nat × Nat} {st : St} {xs : List X} {t : Nat} : b1s (p :: V) st xs (.mv (.t t)) = if (p :: V).any (fun p => p.1 == t) then [] else a05 st xs := (rfl)
section
variable {V : List (Nat × Nat)} {st : St} {xs : List X}
@[go_sem] theorem g5z {z0 : X} : b1s V st xs (.asg z0) = a05 st xs := (rfl)
@[go_sem] theorem g7a {z0 : X} : b1s V st xs (.mva z0) = a05 st xs := (rfl)
@[go_sem] theorem g37 {z0 : X} : b1s V st xs (.mvf z0) = a05 st xs := (rfl)
@[go_sem] theorem g1d {z0 : X} {z1 : X} {z2 : X} : b1s V st xs (.pick z0 z1 z2) = a05 st xs := (rfl)
@[go_sem] theorem f2x {z0 : TypeId} {z1 : List AV} : b1s V st xs (.alloc z0 z1) = a05 st xs := (rfl)
@[go_sem] theorem g6k {z0 : TypeId} {z1 : Nat} {z2 : X} : b1s V st xs (.box z0 z1 z2) = a05 st xs := (rfl)
@[go_sem] theorem f6c {z0 : TypeId} {z1 : List AV} {z2 : List (Nat × Nat × Nat × X)} : b1s V st xs (.build z0 z1 z2) = a05 st xs := (rfl)
@[go_sem] theorem f1j {z0 : TypeId} {z1 : TypeId} {z2 : Nat} {z3 : Nat} {z4 : List AV} {z5 : List (Nat × X)} : b1s V st xs (.bslice z0 z1 z2 z3 z4 z5) = a05 st xs := (rfl)
@[go_sem] theorem g1u {z0 : TypeId} {z1 : Option Nat} {z2 : X} : b1s V st xs (.load z0 z1 z2) = a05 st xs := (rfl)
@[go_sem] theorem f3g {z0 : TypeId} {z1 : Nat} {z2 : X} {z3 : X} : b1s V st xs (.store z0 z1 z2 z3) = a05 st xs := (rfl)
@[go_sem] theorem f2v {z0 : X} : b1s V st xs (.nilck z0) = a05 st xs := (rfl)
@[go_sem] theorem g7d {z0 : BinOp} {z1 : TypeId} {z2 : Nat} {z3 : X} {z4 : X} {z5 : TypeId} : b1s V st xs (.bin z0 z1 z2 z3 z4 z5) = a05 st xs := (rfl)
@[go_sem] theorem h0n {z0 : UnOp} {z1 : TypeId} {z2 : X} : b1s V st xs (.un z0 z1 z2) = a05 st xs := (rfl)
@[go_sem] theorem g5j {z0 : BinOp} {z1 : TypeId} {z2 : TypeId} {z3 : TypeId} {z4 : X} {z5 : X} {z6 : TypeId} : b1s V st xs (.eqs z0 z1 z2 z3 z4 z5 z6) = a05 st xs := (rfl)
@[go_sem] theorem g2x {z0 : TypeId} {z1 : TypeId} {z2 : CK} {z3 : X} : b1s V st xs (.conv z0 z1 z2 z3) = a05 st xs := (rfl)
@[go_sem] theorem g4l {z0 : TypeId} {z1 : X} : b1s V st xs (.mki z0 z1) = a05 st xs := (rfl)
@[go_sem] theorem g40 {z0 : FuncId} {z1 : List X} {z2 : List X} : b1s V st xs (.mkf z0 z1 z2) = a05 st xs := (rfl)
@[go_sem] theorem g6a {z0 : TypeId} {z1 : TypeId} {z2 : Nat} {z3 : Nat} {z4 : List AV} {z5 : X} {z6 : X} : b1s V st xs (.mks z0 z1 z2 z3 z4 z5 z6) = a05 st xs := (rfl)
@[go_sem] theorem f5q {z0 : TypeId} {z1 : Nat} {z2 : X} {z3 : Option X} {z4 : Option X} {z5 : Option X} : b1s V st xs (.slice z0 z1 z2 z3 z4 z5) = a05 st xs := (rfl)
@[go_sem] theorem f6n {z0 : TypeId} {z1 : Nat} {z2 : X} {z3 : Nat} : b1s V st xs (.faddr z0 z1 z2 z3) = a05 st xs := (rfl)
@[go_sem] theorem f5b {z0 : TypeId} {z1 : Nat} {z2 : X} {z3 : X} : b1s V st xs (.iaddr z0 z1 z2 z3) = a05 st xs := (rfl)
@[go_sem] theorem g4p {z0 : X} {z1 : Nat} : b1s V st xs (.ext z0 z1) = a05 st xs := (rfl)
@[go_sem] theorem g5h {z0 : X} {z1 : TypeId} {z2 : TypeId} {z3 : List AV} : b1s V st xs (.tas z0 z1 z2 z3) = a05 st xs := (rfl)
@[go_sem] theorem g6c {z0 : TypeId} {z1 : Bool} {z2 : X} : b1s V st xs (.len z0 z1 z2) = a05 st xs := (rfl)
@[go_sem] theorem g60 {z0 : TypeId} {z1 : TypeId} {z2 : Nat} {z3 : Nat} {z4 : X} {z5 : X} : b1s V st xs (.app z0 z1 z2 z3 z4 z5) = a05 st xs := (rfl)
@[go_sem] theorem h3e {z0 : Bool} {z1 : List TypeId} {z2 : List X} : b1s V st xs (.mm z0 z1 z2) = a05 st xs := (rfl)
@[go_sem] theorem g43 {v : Value} : b1s V st xs (.mv (.c v)) = a05 st xs := (rfl)
end
section
variable {v : Value} {n sz o t lo e' : Nat} {ks a c : List AV} {q : List Nat} {T : TypeId} {k : AV} {f : FuncId}
@[go_sem] theorem f1b : a2w .dead = none := (rfl)
@[go_sem] theorem f5t : a2w (.lit v) = none := (rfl)
@[go_sem] theorem f8u : a2w (.sl n ks) = none := (rfl)
@[go_sem] theorem f6w : a2w (.ip ks o) = none := (rfl)
@[go_sem] theorem f3e : a2w (.own sz n ks) = none := (rfl)
@[go_sem] theorem f3x : a2w (.var ks) = none := (rfl)
@[go_sem] theorem f4u : a2w (.agg ks) = none := (rfl)
@[go_sem] theorem f5d : a2w (.tup ks) = none := (rfl)
@[go_sem] theorem f6l : a2w (.ifc T k) = none := (rfl)
@[go_sem] theorem g3a : a2w (.fn f a c) = none := (rfl)
@[go_sem] theorem f2o : a2w (.ref t q o e') = some t := (rfl)
@[go_sem] theorem f3y : a2w (.bor t q lo n e') = some t := (rfl)
end
attribute [go_sem] c1v a05 f5v slL slX Wop wrE Option.toList_some Option.toList_none f5g List.forall_mem_cons
end Go.Ideal
end
