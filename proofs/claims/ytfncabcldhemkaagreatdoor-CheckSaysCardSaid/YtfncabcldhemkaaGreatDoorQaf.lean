/- Part Qaf of the proof: a machine with trees for values, its soundness, and walks on it. -/
import Derived.Test.YtfncabcldhemkaaGreatDoorQae
set_option linter.unusedVariables false
set_option linter.unusedSimpArgs false
section
namespace Go.Ideal
section
variable {P : Program} {G : GG} {N : Nat} {aft : DA} {fps : List (List Nat × List Nat)} {K : St -> Prop} {Q : Exit -> St -> Prop} {st : St} {d : Option Nat} {rest ios : List AO}
theorem a0c {aft : List (List Nat)} (h : b1b P G N (aft, []) ios [] (Q .normal) st) : AW P G N (.draw ios aft) Q st := ⟨[], (fun p hp => by simp at hp), (fun p hp => by simp at hp), b2b (aft := (aft, [])) ios [] (Q .normal) st (fun p hp => by simp at hp) h⟩
@[go_sem] theorem f06 : b0r [] st = True := by simp [b0r]
@[go_sem] theorem e3s {t e : Nat} {V : List (Nat × Nat)} : b0r ((t, e) :: V) st = (c3m (st.s t) = true /\ st.ep t = e /\ b0r V st) := by
 apply propext
 constructor
 ·intro h; exact ⟨(h (t, e) (by simp)).1, (h (t, e) (by simp)).2, fun p hp => h p (by simp [hp])⟩
 ·rintro ⟨h1, h2, h3⟩ p hp
  rcases List.mem_cons.1 hp with rfl | hp
  ·exact ⟨h1, h2⟩
  ·exact h3 p hp
@[go_sem] theorem e1z {ks : List AV} : c3m (.var ks) = true := (rfl)
@[congr] theorem e0g {V : List (Nat × Nat)} {st' : St} (h : st = st') : b0r V st = b0r V st' := by rw [h]
theorem a0d {aft : List (List Nat)} {V : List (Nat × Nat)} (h : b97 aft fps = true) (h2 : ∀ s, (∀ t, t < N -> s.s t = st.s t) -> (∀ t, t < N -> s.ep t = st.ep t) -> K s) : f65 N (aft, V) fps K st :=
 ⟨h, fun s hs => h2 s (fun t ht => (hs t ht).1) (fun t ht => (hs t ht).2)⟩
@[congr] theorem e1f {ios' : List AO} {fps' : List (List Nat × List Nat)} {st' : St} (h : ios = ios') (h2 : fps = fps') (h3 : st = st') : b1b P G N aft ios fps K st = b1b P G N aft ios' fps' K st' := by rw [h, h2, h3]
@[go_sem] theorem f1z : b1b P G N aft [] fps K st = f65 N aft fps K st := (rfl)
def d4z (N : Nat) : List Nat := List.range N
def d39 (P : Program) (G : GG) (N : Nat) (aft : DA) (ex : List Nat) (d : Option Nat) (xs : List X) (rest : List AO) (fps : List (List Nat × List Nat)) (K : St -> Prop) (st st' : St) : Prop :=
 (∀ t ∈ ex ++ (d.toList ++ a0f st xs), t < N) /\ b0r aft.2 st' /\ b1b P G N aft rest (fps ++ [(ex ++ d4z N, d4z N)]) K st'
def dE (P : Program) (G : GG) (N : Nat) (aft : DA) (ex : List Nat) (d : Option Nat) (i : IOp) (rest : List AO) (fps : List (List Nat × List Nat)) (K : St -> Prop) (st : St) (o : Option (List X)) (e : Option St) : Prop := match o, e with
 | some xs, some st' => d3n (e3j N st i) ((∀ t ∈ ex ++ (d.toList ++ a0f st xs), t < N) /\ (∀ t ∈ Wop st d i, t < N) /\ fr N (Wop st d i) st st' /\ b0r aft.2 st' /\ b1b P G N aft rest (fps ++ [(ex ++ (d.toList ++ b0l aft.2 st xs i), Wop st d i)]) K st') (d39 P G N aft ex d xs rest fps K st st')
 | _, _ => False
@[congr] theorem f1y {ex : List Nat} {i : IOp} {o o' : Option (List X)} {e e' : Option St} (h : o = o') (h2 : e = e') : dE P G N aft ex d i rest fps K st o e = dE P G N aft ex d i rest fps K st o' e' := by rw [h, h2]
@[go_sem] theorem f6z {ex : List Nat} {i : IOp} {xs : List X} {st' : St} : dE P G N aft ex d i rest fps K st (some xs) (some st') = d3n (e3j N st i) ((∀ t ∈ ex ++ (d.toList ++ a0f st xs), t < N) /\ (∀ t ∈ Wop st d i, t < N) /\ fr N (Wop st d i) st st' /\ b0r aft.2 st' /\ b1b P G N aft rest (fps ++ [(ex ++ (d.toList ++ b0l aft.2 st xs i), Wop st d i)]) K st') (d39 P G N aft ex d xs rest fps K st st') := (rfl)
@[go_sem] theorem f66 {i : IOp} : b1b P G N aft (⟨d, .op i, none⟩ :: rest) fps K st = dE P G N aft [] d i rest fps K st (b6a i) (evS G N d i st) := by
 simp only [b1b, d3m, dE]
 cases b6a i <;> cases evS G N d i st <;> rfl
def dGd (P : Program) (G : GG) (N : Nat) (aft : DA) (v : AV) (want : Bool) (t : Nat) (d : Option Nat) (i : IOp) (rest : List AO) (fps : List (List Nat × List Nat)) (K : St -> Prop) (st : St) : Prop := match v with
 | .lit v => if c19 want v then dE P G N aft [t] d i rest fps K st (b6a i) (evS G N d i st) else (∀ u ∈ t :: d.toList, u < N) /\ b0r aft.2 (a4o d st) /\ b1b P G N aft rest (fps ++ [([t], d.toList)]) K (a4o d st)
 | _ => False
section
variable {t : Nat} {i : IOp}
@[congr] theorem e5f {v v' : AV} {w : Bool} (h : v = v') : dGd P G N aft v w t d i rest fps K st = dGd P G N aft v' w t d i rest fps K st := by rw [h]
@[go_sem] theorem g3e {j : Nat} {want : Bool} : b1b P G N aft (⟨d, .op i, some (j, t, want)⟩ :: rest) fps K st = dGd P G N aft (st.s t) want t d i rest fps K st := by
 simp only [b1b, dGd]
 cases st.s t <;> try rfl
@[go_sem] theorem g3d : dGd P G N aft (.lit (.bool true)) true t d i rest fps K st = dE P G N aft [t] d i rest fps K st (b6a i) (evS G N d i st) := (rfl)
@[go_sem] theorem g3a : dGd P G N aft (.lit (.bool false)) false t d i rest fps K st = dE P G N aft [t] d i rest fps K st (b6a i) (evS G N d i st) := (rfl)
@[go_sem] theorem g3c : dGd P G N aft (.lit (.bool true)) false t d i rest fps K st = ((∀ u ∈ t :: d.toList, u < N) /\ b0r aft.2 (a4o d st) /\ b1b P G N aft rest (fps ++ [([t], d.toList)]) K (a4o d st)) := (rfl)
@[go_sem] theorem g3b : dGd P G N aft (.lit (.bool false)) true t d i rest fps K st = ((∀ u ∈ t :: d.toList, u < N) /\ b0r aft.2 (a4o d st) /\ b1b P G N aft rest (fps ++ [([t], d.toList)]) K (a4o d st)) := (rfl)
end
def d0w (P : Program) (G : GG) (N : Nat) (aft : DA) (d : Option Nat) (f : FuncId) (pre : List AV) (rd : List Nat) (rest : List AO) (fps : List (List Nat × List Nat)) (K : St -> Prop) (st st1 st2 : St) : Prop :=
 ∃ res W, ACalls P G f pre res /\ a0k res = true /\ (∀ t ∈ rd, t < N) /\ (∀ t ∈ W, t < N) /\ fr N W st (b4p (if a09 res then st1 else st2) N d res) /\ b0r aft.2 (b4p (if a09 res then st1 else st2) N d res) /\ b1b P G N aft rest (fps ++ [(rd, W)]) K (b4p (if a09 res then st1 else st2) N d res)
def e09 (P : Program) (G : GG) (N : Nat) (aft : DA) (d : Option Nat) (f : FuncId) (args : List (Bool × X)) (rest : List AO) (fps : List (List Nat × List Nat)) (K : St -> Prop) (st : St) (o1 o2 : Option St) : Prop := match o1, o2 with
 | some st1, some st2 => d0w P G N aft d f (a69 N args.length st2) (d.toList ++ a0f st (args.map (·.2))) rest fps K st st1 st2
 | _, _ => False
def e47 (P : Program) (G : GG) (N : Nat) (aft : DA) (d : Option Nat) (f : FuncId) (args : List (Bool × X)) (rest : List AO) (fps : List (List Nat × List Nat)) (K : St -> Prop) (st : St) (o1 : Option St) : Prop := e09 P G N aft d f args rest fps K st o1 (pss N (N + 2) args o1)
section
variable {f : FuncId} {args : List (Bool × X)}
@[congr] theorem e08 {o o' : Option St} (h : o = o') : e47 P G N aft d f args rest fps K st o = e47 P G N aft d f args rest fps K st o' := by rw [h]
@[congr] theorem e1a {o1 o o' : Option St} (h : o = o') : e09 P G N aft d f args rest fps K st o1 o = e09 P G N aft d f args rest fps K st o1 o' := by rw [h]
@[congr] theorem e07 {pre pre' : List AV} {rd rd' : List Nat} {st1 st2 : St} (h : pre = pre') (h2 : rd = rd') : d0w P G N aft d f pre rd rest fps K st st1 st2 = d0w P G N aft d f pre' rd' rest fps K st st1 st2 := by rw [h, h2]
@[go_sem] theorem e48 {st1 : St} : e47 P G N aft d f args rest fps K st (some st1) = e09 P G N aft d f args rest fps K st (some st1) (pss N (N + 2) args (some st1)) := (rfl)
@[go_sem] theorem e49 {st1 st2 : St} : e09 P G N aft d f args rest fps K st (some st1) (some st2) = d0w P G N aft d f (a69 N args.length st2) (d.toList ++ a0f st (args.map (·.2))) rest fps K st st1 st2 := (rfl)
@[go_sem] theorem e5g {tys : List TypeId} : b1b P G N aft (⟨d, .call f args tys, none⟩ :: rest) fps K st = e47 P G N aft d f args rest fps K st (gvs N (N + 2) args (some st)) := by
 simp only [b1b, d3m, e47, e09, d0w]
 cases gvs N (N + 2) args (some st) with
 | none => rfl
 | some st1 =>
  simp only
  cases pss N (N + 2) args (some st1) <;> rfl
theorem a0i {pre : List AV} {rd : List Nat} {st1 st2 : St} {res : AV} (hA : ACalls P G f pre res) (hn : a0k res = true) (hi : a09 res = true) (hrd : ∀ t ∈ rd, t < N) (W : List Nat) (hW : ∀ t ∈ W, t < N) (hf : fr N W st (b4p st1 N d res)) (h : b0r aft.2 (b4p st1 N d res) /\ b1b P G N aft rest (fps ++ [(rd, W)]) K (b4p st1 N d res)) : d0w P G N aft d f pre rd rest fps K st st1 st2 :=
 ⟨res, W, hA, hn, hrd, hW, by rw [hi]; exact hf, by rw [hi]; exact h⟩
theorem b2a {pre : List AV} {rd : List Nat} {st1 st2 : St} {res : AV} (hA : ACalls P G f pre res) (hn : a0k res = true) (hi : a09 res = false) (hrd : ∀ t ∈ rd, t < N) (W : List Nat) (hW : ∀ t ∈ W, t < N) (hf : fr N W st (b4p st2 N d res)) (h : b0r aft.2 (b4p st2 N d res) /\ b1b P G N aft rest (fps ++ [(rd, W)]) K (b4p st2 N d res)) : d0w P G N aft d f pre rd rest fps K st st1 st2 :=
 ⟨res, W, hA, hn, hrd, hW, by rw [hi]; exact hf, by rw [hi]; exact h⟩
end
section
variable {W : List Nat} {st1 : St} {t : Nat} {v : AV}
def frI (b : Bool) (p q : Prop) : Prop := if b then p else q
@[congr] theorem e6o {b b' : Bool} {p q : Prop} (h : b = b') : frI b p q = frI b' p q := by rw [h]
@[go_sem] theorem g6p {p q : Prop} : frI true p q = p := by simp [frI]
def frX (N : Nat) (W : List Nat) (st st' : St) : Prop := fr N W st st'
@[go_sem] theorem f72 : fr N W st st = True := by simp [fr, agr.refl]
theorem d4x {st2 st3 : St} (h : ∀ u, u < N -> u ∉ W -> agr st2 st3 u) : fr N W st st2 = fr N W st st3 := by
 apply propext
 constructor
 ·intro h2 u hu hw; exact (h2 u hu hw).trans (h u hu hw)
 ·intro h2 u hu hw; exact (h2 u hu hw).trans (h u hu hw).symm
@[go_sem] theorem g33 : fr N W st (st1.put t v) = frI (W.contains t || decide (N <= t)) (fr N W st st1) (frX N W st (st1.put t v)) := by
 simp only [frI, frX]
 split
 ·rename_i h
  refine d4x fun u hu hw => (agr.putn v ?_).symm
  rintro rfl
  simp at h
  rcases h with h | h
  ·exact hw h
  ·omega
 ·rfl
@[go_sem] theorem g34 : fr N W st (st1.set t v) = frI (W.contains t || decide (N <= t)) (fr N W st st1) (frX N W st (st1.set t v)) := by
 simp only [frI, frX]
 split
 ·rename_i h
  refine d4x fun u hu hw => (agr.setn v ?_).symm
  rintro rfl
  simp at h
  rcases h with h | h
  ·exact hw h
  ·omega
 ·rfl
@[go_sem] theorem f73 {M : Nat} : fr N W st (st1.thru M t v) = frI ((W.contains t || decide (N <= t)) && decide (N <= M)) (fr N W st st1) (frX N W st (st1.thru M t v)) := by
 simp only [frI, frX]
 split
 ·rename_i h
  simp only [Bool.and_eq_true, Bool.or_eq_true, decide_eq_true_eq, List.contains_iff_mem] at h
  refine d4x fun u hu hw => ?_
  have h1 : u ≠ M := by omega
  have h2 : u ≠ t := by
   rintro rfl
   rcases h.1 with h | h
   ·exact hw h
   ·omega
  exact (((agr.putn v h1).trans (agr.putn _ h1)).trans (agr.putn v h2)).symm
 ·rfl
@[go_sem] theorem f22 : fr N W st (st1.clear N) = fr N W st st1 := by
 refine d4x fun u hu _ => ?_
 simp [agr, St.clear, hu]
end
end
@[congr] theorem e1h {b b' : Bool} {p q : Prop} (h : b = b') : d3n b p q = d3n b' p q := by rw [h]
@[go_sem] theorem g3g {p q : Prop} : d3n true p q = p := by simp [d3n]
section
variable {P : Program} {G : GG} {N : Nat} {aft : DA} {fps : List (List Nat × List Nat)} {K : St -> Prop} {st st' : St} {d : Option Nat} {rest : List AO} {ex : List Nat} {xs : List X}
@[go_sem] theorem g3f {p : Prop} : d3n false p (d39 P G N aft ex d xs rest fps K st st') = ((∀ t ∈ ex ++ (d.toList ++ a0f st xs), t < N) /\ b0r aft.2 st' /\ b1b P G N aft rest (fps ++ [(ex ++ d4z N, d4z N)]) K st') := by simp only [d3n, d39, Bool.false_eq_true, if_false]
end
@[go_sem] theorem f5i {st : St} {xs : List X} {i : IOp} : b0l [] st xs i = a0f st xs := by unfold b0l; split <;> simp
@[go_sem] theorem g1a {V : List (Nat × Nat)} {p : Nat × Nat} {st : St} {xs : List X} {t : Nat} : b0l (p :: V) st xs (.mv (.t t)) = if (p :: V).any (fun p => p.1 == t) then [] else a0f st xs := (rfl)
section
variable {V : List (Nat × Nat)} {st : St} {xs : List X}
@[go_sem] theorem f4v {z0 : X} : b0l V st xs (.asg z0) = a0f st xs := (rfl)
@[go_sem] theorem f5f {z0 : X} : b0l V st xs (.mva z0) = a0f st xs := (rfl)
@[go_sem] theorem f5h {z0 : X} : b0l V st xs (.mvf z0) = a0f st xs := (rfl)
@[go_sem] theorem e9h {z0 : X} {z1 : X} {z2 : X} : b0l V st xs (.pick z0 z1 z2) = a0f st xs := (rfl)
@[go_sem] theorem e2w {z0 : TypeId} {z1 : List AV} : b0l V st xs (.alloc z0 z1) = a0f st xs := (rfl)
@[go_sem] theorem f4x {z0 : TypeId} {z1 : Nat} {z2 : X} : b0l V st xs (.box z0 z1 z2) = a0f st xs := (rfl)
@[go_sem] theorem e2x {z0 : TypeId} {z1 : List AV} {z2 : List (Nat × Nat × Nat × X)} : b0l V st xs (.build z0 z1 z2) = a0f st xs := (rfl)
@[go_sem] theorem d9h {z0 : TypeId} {z1 : TypeId} {z2 : Nat} {z3 : Nat} {z4 : List AV} {z5 : List (Nat × X)} : b0l V st xs (.bslice z0 z1 z2 z3 z4 z5) = a0f st xs := (rfl)
@[go_sem] theorem e9g {z0 : TypeId} {z1 : Option Nat} {z2 : X} : b0l V st xs (.load z0 z1 z2) = a0f st xs := (rfl)
@[go_sem] theorem e22 {z0 : TypeId} {z1 : Nat} {z2 : X} {z3 : X} : b0l V st xs (.store z0 z1 z2 z3) = a0f st xs := (rfl)
@[go_sem] theorem e20 {z0 : X} : b0l V st xs (.nilck z0) = a0f st xs := (rfl)
@[go_sem] theorem f4w {z0 : BinOp} {z1 : TypeId} {z2 : Nat} {z3 : X} {z4 : X} {z5 : TypeId} : b0l V st xs (.bin z0 z1 z2 z3 z4 z5) = a0f st xs := (rfl)
@[go_sem] theorem g1b {z0 : UnOp} {z1 : TypeId} {z2 : X} : b0l V st xs (.un z0 z1 z2) = a0f st xs := (rfl)
@[go_sem] theorem f4y {z0 : BinOp} {z1 : TypeId} {z2 : TypeId} {z3 : TypeId} {z4 : X} {z5 : X} {z6 : TypeId} : b0l V st xs (.eqs z0 z1 z2 z3 z4 z5 z6) = a0f st xs := (rfl)
@[go_sem] theorem e9f {z0 : TypeId} {z1 : TypeId} {z2 : CK} {z3 : X} : b0l V st xs (.conv z0 z1 z2 z3) = a0f st xs := (rfl)
@[go_sem] theorem f5d {z0 : TypeId} {z1 : X} : b0l V st xs (.mki z0 z1) = a0f st xs := (rfl)
@[go_sem] theorem f5c {z0 : FuncId} {z1 : List X} {z2 : List X} : b0l V st xs (.mkf z0 z1 z2) = a0f st xs := (rfl)
@[go_sem] theorem f5e {z0 : TypeId} {z1 : TypeId} {z2 : Nat} {z3 : Nat} {z4 : List AV} {z5 : X} {z6 : X} : b0l V st xs (.mks z0 z1 z2 z3 z4 z5 z6) = a0f st xs := (rfl)
@[go_sem] theorem e21 {z0 : TypeId} {z1 : Nat} {z2 : X} {z3 : Option X} {z4 : Option X} {z5 : Option X} : b0l V st xs (.slice z0 z1 z2 z3 z4 z5) = a0f st xs := (rfl)
@[go_sem] theorem e2y {z0 : TypeId} {z1 : Nat} {z2 : X} {z3 : Nat} : b0l V st xs (.faddr z0 z1 z2 z3) = a0f st xs := (rfl)
@[go_sem] theorem e2z {z0 : TypeId} {z1 : Nat} {z2 : X} {z3 : X} : b0l V st xs (.iaddr z0 z1 z2 z3) = a0f st xs := (rfl)
@[go_sem] theorem f5a {z0 z1 z3 : Nat} {z2 : X} : b0l V st xs (.fld z0 z1 z2 z3) = a0f st xs := (rfl)
@[go_sem] theorem f4z {z0 : X} {z1 : Nat} : b0l V st xs (.ext z0 z1) = a0f st xs := (rfl)
@[go_sem] theorem f5j {z0 : X} {z1 : TypeId} {z2 : TypeId} {z3 : List AV} : b0l V st xs (.tas z0 z1 z2 z3) = a0f st xs := (rfl)
@[go_sem] theorem f5b {z0 : TypeId} {z1 : Bool} {z2 : X} : b0l V st xs (.len z0 z1 z2) = a0f st xs := (rfl)
@[go_sem] theorem f4u {z0 : TypeId} {z1 : TypeId} {z2 : Nat} {z3 : Nat} {z4 : X} {z5 : X} : b0l V st xs (.app z0 z1 z2 z3 z4 z5) = a0f st xs := (rfl)
@[go_sem] theorem g09 {z0 : Bool} {z1 : List TypeId} {z2 : List X} : b0l V st xs (.mm z0 z1 z2) = a0f st xs := (rfl)
@[go_sem] theorem f5g {v : Value} : b0l V st xs (.mv (.c v)) = a0f st xs := (rfl)
end
section
variable {v : Value} {n sz o t lo e' : Nat} {ks a c : List AV} {q : List Nat} {T : TypeId} {k : AV} {f : FuncId}
@[go_sem] theorem d7b : a3r .dead = none := (rfl)
@[go_sem] theorem e0p : a3r (.lit v) = none := (rfl)
@[go_sem] theorem e4i : a3r (.sl n ks) = none := (rfl)
@[go_sem] theorem e4h : a3r (.ip ks o) = none := (rfl)
@[go_sem] theorem e0q : a3r (.own sz n ks) = none := (rfl)
@[go_sem] theorem e0t : a3r (.var ks) = none := (rfl)
@[go_sem] theorem e0m : a3r (.agg ks) = none := (rfl)
@[go_sem] theorem e0s : a3r (.tup ks) = none := (rfl)
@[go_sem] theorem e0o : a3r (.ifc T k) = none := (rfl)
@[go_sem] theorem e4g : a3r (.fn f a c) = none := (rfl)
@[go_sem] theorem e0r : a3r (.ref t q o e') = some t := (rfl)
@[go_sem] theorem e0n : a3r (.bor t q lo n e') = some t := (rfl)
end
attribute [go_sem] b6a a0f a1a slL slX Wop wrE Option.toList_some Option.toList_none e3j List.forall_mem_cons
end Go.Ideal
end
