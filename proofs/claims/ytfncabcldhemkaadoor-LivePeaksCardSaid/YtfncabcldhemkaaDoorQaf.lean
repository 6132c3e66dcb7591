/- Part Qaf of the proof: a machine with trees for values, its soundness, and walks on it. -/
import Derived.Test.YtfncabcldhemkaaDoorQae
set_option linter.unusedVariables false
set_option linter.unusedSimpArgs false
section
namespace Go.Ideal
section
variable {P : Program} {G : GG} {N : Nat} {aft : DA} {fps : List (List Nat × List Nat)} {K : St -> Prop} {Q : Exit -> St -> Prop} {st : St} {d : Option Nat} {rest ios : List AO}
theorem a0b {aft : List (List Nat)} (h : a6w P G N (aft, []) ios [] (Q .normal) st) : AW P G N (.draw ios aft) Q st := ⟨[], (fun p hp => by simp at hp), (fun p hp => by simp at hp), a8a (aft := (aft, [])) ios [] (Q .normal) st (fun p hp => by simp at hp) h⟩
@[go_sem] theorem e44 : a6v [] st = True := by simp [a6v]
@[go_sem] theorem d7j {t e : Nat} {V : List (Nat × Nat)} : a6v ((t, e) :: V) st = (b7v (st.s t) = true /\ st.ep t = e /\ a6v V st) := by
 apply propext
 constructor
 ·intro h; exact ⟨(h (t, e) (by simp)).1, (h (t, e) (by simp)).2, fun p hp => h p (by simp [hp])⟩
 ·rintro ⟨h1, h2, h3⟩ p hp
  rcases List.mem_cons.1 hp with rfl | hp
  ·exact ⟨h1, h2⟩
  ·exact h3 p hp
@[go_sem] theorem d5r {ks : List AV} : b7v (.var ks) = true := (rfl)
@[congr] theorem d34 {V : List (Nat × Nat)} {st' : St} (h : st = st') : a6v V st = a6v V st' := by rw [h]
theorem a0d {aft : List (List Nat)} {V : List (Nat × Nat)} (h : b4n aft fps = true) (h2 : ∀ s, (∀ t, t < N -> s.s t = st.s t) -> (∀ t, t < N -> s.ep t = st.ep t) -> K s) : e93 N (aft, V) fps K st :=
 ⟨h, fun s hs => h2 s (fun t ht => (hs t ht).1) (fun t ht => (hs t ht).2)⟩
@[congr] theorem d45 {ios' : List AO} {fps' : List (List Nat × List Nat)} {st' : St} (h : ios = ios') (h2 : fps = fps') (h3 : st = st') : a6w P G N aft ios fps K st = a6w P G N aft ios' fps' K st' := by rw [h, h2, h3]
@[go_sem] theorem e5y : a6w P G N aft [] fps K st = e93 N aft fps K st := (rfl)
def c8w (N : Nat) : List Nat := List.range N
def c73 (P : Program) (G : GG) (N : Nat) (aft : DA) (ex : List Nat) (d : Option Nat) (xs : List X) (rest : List AO) (fps : List (List Nat × List Nat)) (K : St -> Prop) (st st' : St) : Prop :=
 (∀ t ∈ ex ++ (d.toList ++ a0w st xs), t < N) /\ a6v aft.2 st' /\ a6w P G N aft rest (fps ++ [(ex ++ c8w N, c8w N)]) K st'
def dE (P : Program) (G : GG) (N : Nat) (aft : DA) (ex : List Nat) (d : Option Nat) (i : IOp) (rest : List AO) (fps : List (List Nat × List Nat)) (K : St -> Prop) (st : St) (o : Option (List X)) (e : Option St) : Prop := match o, e with
 | some xs, some st' => c68 (d7b N st i) ((∀ t ∈ ex ++ (d.toList ++ a0w st xs), t < N) /\ (∀ t ∈ Wop st d i, t < N) /\ fr N (Wop st d i) st st' /\ a6v aft.2 st' /\ a6w P G N aft rest (fps ++ [(ex ++ (d.toList ++ a6q aft.2 st xs i), Wop st d i)]) K st') (c73 P G N aft ex d xs rest fps K st st')
 | _, _ => False
@[congr] theorem e5x {ex : List Nat} {i : IOp} {o o' : Option (List X)} {e e' : Option St} (h : o = o') (h2 : e = e') : dE P G N aft ex d i rest fps K st o e = dE P G N aft ex d i rest fps K st o' e' := by rw [h, h2]
@[go_sem] theorem e92 {ex : List Nat} {i : IOp} {xs : List X} {st' : St} : dE P G N aft ex d i rest fps K st (some xs) (some st') = c68 (d7b N st i) ((∀ t ∈ ex ++ (d.toList ++ a0w st xs), t < N) /\ (∀ t ∈ Wop st d i, t < N) /\ fr N (Wop st d i) st st' /\ a6v aft.2 st' /\ a6w P G N aft rest (fps ++ [(ex ++ (d.toList ++ a6q aft.2 st xs i), Wop st d i)]) K st') (c73 P G N aft ex d xs rest fps K st st') := (rfl)
@[go_sem] theorem e99 {i : IOp} : a6w P G N aft (⟨d, .op i, none⟩ :: rest) fps K st = dE P G N aft [] d i rest fps K st (b0v i) (evS G N d i st) := by
 simp only [a6w, c4p, dE]
 cases b0v i <;> cases evS G N d i st <;> rfl
def dGd (P : Program) (G : GG) (N : Nat) (aft : DA) (v : AV) (want : Bool) (t : Nat) (d : Option Nat) (i : IOp) (rest : List AO) (fps : List (List Nat × List Nat)) (K : St -> Prop) (st : St) : Prop := match v with
 | .lit v => if b4a want v then dE P G N aft [t] d i rest fps K st (b0v i) (evS G N d i st) else (∀ u ∈ t :: d.toList, u < N) /\ a6v aft.2 (a2s d st) /\ a6w P G N aft rest (fps ++ [([t], d.toList)]) K (a2s d st)
 | _ => False
section
variable {t : Nat} {i : IOp}
@[congr] theorem d81 {v v' : AV} {w : Bool} (h : v = v') : dGd P G N aft v w t d i rest fps K st = dGd P G N aft v' w t d i rest fps K st := by rw [h]
@[go_sem] theorem f53 {j : Nat} {want : Bool} : a6w P G N aft (⟨d, .op i, some (j, t, want)⟩ :: rest) fps K st = dGd P G N aft (st.s t) want t d i rest fps K st := by
 simp only [a6w, dGd]
 cases st.s t <;> try rfl
@[go_sem] theorem f52 : dGd P G N aft (.lit (.bool true)) true t d i rest fps K st = dE P G N aft [t] d i rest fps K st (b0v i) (evS G N d i st) := (rfl)
@[go_sem] theorem f5x : dGd P G N aft (.lit (.bool false)) false t d i rest fps K st = dE P G N aft [t] d i rest fps K st (b0v i) (evS G N d i st) := (rfl)
@[go_sem] theorem f5z : dGd P G N aft (.lit (.bool true)) false t d i rest fps K st = ((∀ u ∈ t :: d.toList, u < N) /\ a6v aft.2 (a2s d st) /\ a6w P G N aft rest (fps ++ [([t], d.toList)]) K (a2s d st)) := (rfl)
@[go_sem] theorem f5y : dGd P G N aft (.lit (.bool false)) true t d i rest fps K st = ((∀ u ∈ t :: d.toList, u < N) /\ a6v aft.2 (a2s d st) /\ a6w P G N aft rest (fps ++ [([t], d.toList)]) K (a2s d st)) := (rfl)
end
def c1o (P : Program) (G : GG) (N : Nat) (aft : DA) (d : Option Nat) (f : FuncId) (pre : List AV) (rd : List Nat) (rest : List AO) (fps : List (List Nat × List Nat)) (K : St -> Prop) (st st1 st2 : St) : Prop :=
 ∃ res W, ACalls P G f pre res /\ a0r res = true /\ (∀ t ∈ rd, t < N) /\ (∀ t ∈ W, t < N) /\ fr N W st (a9r (if a0x res then st1 else st2) N d res) /\ a6v aft.2 (a9r (if a0x res then st1 else st2) N d res) /\ a6w P G N aft rest (fps ++ [(rd, W)]) K (a9r (if a0x res then st1 else st2) N d res)
def d4w (P : Program) (G : GG) (N : Nat) (aft : DA) (d : Option Nat) (f : FuncId) (args : List (Bool × X)) (rest : List AO) (fps : List (List Nat × List Nat)) (K : St -> Prop) (st : St) (o1 o2 : Option St) : Prop := match o1, o2 with
 | some st1, some st2 => c1o P G N aft d f (a4q N args.length st2) (d.toList ++ a0w st (args.map (·.2))) rest fps K st st1 st2
 | _, _ => False
def d8u (P : Program) (G : GG) (N : Nat) (aft : DA) (d : Option Nat) (f : FuncId) (args : List (Bool × X)) (rest : List AO) (fps : List (List Nat × List Nat)) (K : St -> Prop) (st : St) (o1 : Option St) : Prop := d4w P G N aft d f args rest fps K st o1 (pss N (N + 2) args o1)
section
variable {f : FuncId} {args : List (Bool × X)}
@[congr] theorem d4v {o o' : Option St} (h : o = o') : d8u P G N aft d f args rest fps K st o = d8u P G N aft d f args rest fps K st o' := by rw [h]
@[congr] theorem d4x {o1 o o' : Option St} (h : o = o') : d4w P G N aft d f args rest fps K st o1 o = d4w P G N aft d f args rest fps K st o1 o' := by rw [h]
@[congr] theorem d4u {pre pre' : List AV} {rd rd' : List Nat} {st1 st2 : St} (h : pre = pre') (h2 : rd = rd') : c1o P G N aft d f pre rd rest fps K st st1 st2 = c1o P G N aft d f pre' rd' rest fps K st st1 st2 := by rw [h, h2]
@[go_sem] theorem d8v {st1 : St} : d8u P G N aft d f args rest fps K st (some st1) = d4w P G N aft d f args rest fps K st (some st1) (pss N (N + 2) args (some st1)) := (rfl)
@[go_sem] theorem d8w {st1 st2 : St} : d4w P G N aft d f args rest fps K st (some st1) (some st2) = c1o P G N aft d f (a4q N args.length st2) (d.toList ++ a0w st (args.map (·.2))) rest fps K st st1 st2 := (rfl)
@[go_sem] theorem d82 {tys : List TypeId} : a6w P G N aft (⟨d, .call f args tys, none⟩ :: rest) fps K st = d8u P G N aft d f args rest fps K st (gvs N (N + 2) args (some st)) := by
 simp only [a6w, c4p, d8u, d4w, c1o]
 cases gvs N (N + 2) args (some st) with
 | none => rfl
 | some st1 =>
  simp only
  cases pss N (N + 2) args (some st1) <;> rfl
theorem a02 {pre : List AV} {rd : List Nat} {st1 st2 : St} {res : AV} (hA : ACalls P G f pre res) (hn : a0r res = true) (hi : a0x res = true) (hrd : ∀ t ∈ rd, t < N) (W : List Nat) (hW : ∀ t ∈ W, t < N) (hf : fr N W st (a9r st1 N d res)) (h : a6v aft.2 (a9r st1 N d res) /\ a6w P G N aft rest (fps ++ [(rd, W)]) K (a9r st1 N d res)) : c1o P G N aft d f pre rd rest fps K st st1 st2 :=
 ⟨res, W, hA, hn, hrd, hW, by rw [hi]; exact hf, by rw [hi]; exact h⟩
theorem c72 {pre : List AV} {rd : List Nat} {st1 st2 : St} {res : AV} (hA : ACalls P G f pre res) (hn : a0r res = true) (hi : a0x res = false) (hrd : ∀ t ∈ rd, t < N) (W : List Nat) (hW : ∀ t ∈ W, t < N) (hf : fr N W st (a9r st2 N d res)) (h : a6v aft.2 (a9r st2 N d res) /\ a6w P G N aft rest (fps ++ [(rd, W)]) K (a9r st2 N d res)) : c1o P G N aft d f pre rd rest fps K st st1 st2 :=
 ⟨res, W, hA, hn, hrd, hW, by rw [hi]; exact hf, by rw [hi]; exact h⟩
end
section
variable {W : List Nat} {st1 : St} {t : Nat} {v : AV}
def frI (b : Bool) (p q : Prop) : Prop := if b then p else q
@[congr] theorem d99 {b b' : Bool} {p q : Prop} (h : b = b') : frI b p q = frI b' p q := by rw [h]
@[go_sem] theorem f9w {p q : Prop} : frI true p q = p := by simp [frI]
def frX (N : Nat) (W : List Nat) (st st' : St) : Prop := fr N W st st'
@[go_sem] theorem f07 : fr N W st st = True := by simp [fr, agr.refl]
theorem c8u {st2 st3 : St} (h : ∀ u, u < N -> u ∉ W -> agr st2 st3 u) : fr N W st st2 = fr N W st st3 := by
 apply propext
 constructor
 ·intro h2 u hu hw; exact (h2 u hu hw).trans (h u hu hw)
 ·intro h2 u hu hw; exact (h2 u hu hw).trans (h u hu hw).symm
@[go_sem] theorem f6x : fr N W st (st1.put t v) = frI (W.contains t || decide (N <= t)) (fr N W st st1) (frX N W st (st1.put t v)) := by
 simp only [frI, frX]
 split
 ·rename_i h
  refine c8u fun u hu hw => (agr.putn v ?_).symm
  rintro rfl
  simp at h
  rcases h with h | h
  ·exact hw h
  ·omega
 ·rfl
@[go_sem] theorem f6y : fr N W st (st1.set t v) = frI (W.contains t || decide (N <= t)) (fr N W st st1) (frX N W st (st1.set t v)) := by
 simp only [frI, frX]
 split
 ·rename_i h
  refine c8u fun u hu hw => (agr.setn v ?_).symm
  rintro rfl
  simp at h
  rcases h with h | h
  ·exact hw h
  ·omega
 ·rfl
@[go_sem] theorem f08 {M : Nat} : fr N W st (st1.thru M t v) = frI ((W.contains t || decide (N <= t)) && decide (N <= M)) (fr N W st st1) (frX N W st (st1.thru M t v)) := by
 simp only [frI, frX]
 split
 ·rename_i h
  simp only [Bool.and_eq_true, Bool.or_eq_true, decide_eq_true_eq, List.contains_iff_mem] at h
  refine c8u fun u hu hw => ?_
  have h1 : u ≠ M := by omega
  have h2 : u ≠ t := by
   rintro rfl
   rcases h.1 with h | h
   ·exact hw h
   ·omega
  exact (((agr.putn v h1).trans (agr.putn _ h1)).trans (agr.putn v h2)).symm
 ·rfl
@[go_sem] theorem e6o : fr N W st (st1.clear N) = fr N W st st1 := by
 refine c8u fun u hu _ => ?_
 simp [agr, St.clear, hu]
end
end
@[congr] theorem d47 {b b' : Bool} {p q : Prop} (h : b = b') : c68 b p q = c68 b' p q := by rw [h]
@[go_sem] theorem f55 {p q : Prop} : c68 true p q = p := by simp [c68]
section
variable {P : Program} {G : GG} {N : Nat} {aft : DA} {fps : List (List Nat × List Nat)} {K : St -> Prop} {st st' : St} {d : Option Nat} {rest : List AO} {ex : List Nat} {xs : List X}
@[go_sem] theorem f54 {p : Prop} : c68 false p (c73 P G N aft ex d xs rest fps K st st') = ((∀ t ∈ ex ++ (d.toList ++ a0w st xs), t < N) /\ a6v aft.2 st' /\ a6w P G N aft rest (fps ++ [(ex ++ c8w N, c8w N)]) K st') := by simp only [c68, c73, Bool.false_eq_true, if_false]
end
@[go_sem] theorem e8u {st : St} {xs : List X} {i : IOp} : a6q [] st xs i = a0w st xs := by unfold a6q; split <;> simp
@[go_sem] theorem f32 {V : List (Nat × Nat)} {p : Nat × Nat} {st : St} {xs : List X} {t : Nat} : a6q (p :: V) st xs (.mv (.t t)) = if (p :: V).any (fun p => p.1 == t) then [] else a0w st xs := (rfl)
section
variable {V : List (Nat × Nat)} {st : St} {xs : List X}
@[go_sem] theorem e8h {z0 : X} : a6q V st xs (.asg z0) = a0w st xs := (rfl)
@[go_sem] theorem e8r {z0 : X} : a6q V st xs (.mva z0) = a0w st xs := (rfl)
@[go_sem] theorem e8t {z0 : X} : a6q V st xs (.mvf z0) = a0w st xs := (rfl)
@[go_sem] theorem e3f {z0 : X} {z1 : X} {z2 : X} : a6q V st xs (.pick z0 z1 z2) = a0w st xs := (rfl)
@[go_sem] theorem d6o {z0 : TypeId} {z1 : List AV} : a6q V st xs (.alloc z0 z1) = a0w st xs := (rfl)
@[go_sem] theorem e8j {z0 : TypeId} {z1 : Nat} {z2 : X} : a6q V st xs (.box z0 z1 z2) = a0w st xs := (rfl)
@[go_sem] theorem d6p {z0 : TypeId} {z1 : List AV} {z2 : List (Nat × Nat × Nat × X)} : a6q V st xs (.build z0 z1 z2) = a0w st xs := (rfl)
@[go_sem] theorem d3b {z0 : TypeId} {z1 : TypeId} {z2 : Nat} {z3 : Nat} {z4 : List AV} {z5 : List (Nat × X)} : a6q V st xs (.bslice z0 z1 z2 z3 z4 z5) = a0w st xs := (rfl)
@[go_sem] theorem e3c {z0 : TypeId} {z1 : Option Nat} {z2 : X} : a6q V st xs (.load z0 z1 z2) = a0w st xs := (rfl)
@[go_sem] theorem d6v {z0 : TypeId} {z1 : Nat} {z2 : X} {z3 : X} : a6q V st xs (.store z0 z1 z2 z3) = a0w st xs := (rfl)
@[go_sem] theorem d6t {z0 : X} : a6q V st xs (.nilck z0) = a0w st xs := (rfl)
@[go_sem] theorem e8i {z0 : BinOp} {z1 : TypeId} {z2 : Nat} {z3 : X} {z4 : X} {z5 : TypeId} : a6q V st xs (.bin z0 z1 z2 z3 z4 z5) = a0w st xs := (rfl)
@[go_sem] theorem f34 {z0 : UnOp} {z1 : TypeId} {z2 : X} : a6q V st xs (.un z0 z1 z2) = a0w st xs := (rfl)
@[go_sem] theorem e8k {z0 : BinOp} {z1 : TypeId} {z2 : TypeId} {z3 : TypeId} {z4 : X} {z5 : X} {z6 : TypeId} : a6q V st xs (.eqs z0 z1 z2 z3 z4 z5 z6) = a0w st xs := (rfl)
@[go_sem] theorem e3b {z0 : TypeId} {z1 : TypeId} {z2 : CK} {z3 : X} : a6q V st xs (.conv z0 z1 z2 z3) = a0w st xs := (rfl)
@[go_sem] theorem e8p {z0 : TypeId} {z1 : X} : a6q V st xs (.mki z0 z1) = a0w st xs := (rfl)
@[go_sem] theorem e8o {z0 : FuncId} {z1 : List X} {z2 : List X} : a6q V st xs (.mkf z0 z1 z2) = a0w st xs := (rfl)
@[go_sem] theorem e8q {z0 : TypeId} {z1 : TypeId} {z2 : Nat} {z3 : Nat} {z4 : List AV} {z5 : X} {z6 : X} : a6q V st xs (.mks z0 z1 z2 z3 z4 z5 z6) = a0w st xs := (rfl)
@[go_sem] theorem d6u {z0 : TypeId} {z1 : Nat} {z2 : X} {z3 : Option X} {z4 : Option X} {z5 : Option X} : a6q V st xs (.slice z0 z1 z2 z3 z4 z5) = a0w st xs := (rfl)
@[go_sem] theorem d6q {z0 : TypeId} {z1 : Nat} {z2 : X} {z3 : Nat} : a6q V st xs (.faddr z0 z1 z2 z3) = a0w st xs := (rfl)
@[go_sem] theorem d6r {z0 : TypeId} {z1 : Nat} {z2 : X} {z3 : X} : a6q V st xs (.iaddr z0 z1 z2 z3) = a0w st xs := (rfl)
@[go_sem] theorem e8m {z0 z1 z3 : Nat} {z2 : X} : a6q V st xs (.fld z0 z1 z2 z3) = a0w st xs := (rfl)
@[go_sem] theorem d6s {z0 : Nat} : a6q V st xs (.mkmap z0) = a0w st xs := (rfl)
@[go_sem] theorem e3d {z0 z1 : Nat} {z2 : List AV} {z3 z4 : X} : a6q V st xs (.mget z0 z1 z2 z3 z4) = a0w st xs := (rfl)
@[go_sem] theorem e3e {z0 z1 : Nat} {z2 z3 z4 : X} : a6q V st xs (.mset z0 z1 z2 z3 z4) = a0w st xs := (rfl)
@[go_sem] theorem e8l {z0 : X} {z1 : Nat} : a6q V st xs (.ext z0 z1) = a0w st xs := (rfl)
@[go_sem] theorem e8v {z0 : X} {z1 : TypeId} {z2 : TypeId} {z3 : List AV} : a6q V st xs (.tas z0 z1 z2 z3) = a0w st xs := (rfl)
@[go_sem] theorem e8n {z0 : TypeId} {z1 : Bool} {z2 : X} : a6q V st xs (.len z0 z1 z2) = a0w st xs := (rfl)
@[go_sem] theorem e8g {z0 : TypeId} {z1 : TypeId} {z2 : Nat} {z3 : Nat} {z4 : X} {z5 : X} : a6q V st xs (.app z0 z1 z2 z3 z4 z5) = a0w st xs := (rfl)
@[go_sem] theorem f31 {z0 : Bool} {z1 : List TypeId} {z2 : List X} : a6q V st xs (.mm z0 z1 z2) = a0w st xs := (rfl)
@[go_sem] theorem e8s {v : Value} : a6q V st xs (.mv (.c v)) = a0w st xs := (rfl)
end
section
variable {v : Value} {n sz o t lo e' : Nat} {ks a c : List AV} {q : List Nat} {T : TypeId} {k : AV} {f : FuncId}
@[go_sem] theorem d06 : a2k .dead = none := (rfl)
@[go_sem] theorem d4d : a2k (.lit v) = none := (rfl)
@[go_sem] theorem d78 : a2k (.sl n ks) = none := (rfl)
@[go_sem] theorem d77 : a2k (.ip ks o) = none := (rfl)
@[go_sem] theorem d4e : a2k (.own sz n ks) = none := (rfl)
@[go_sem] theorem d4h : a2k (.var ks) = none := (rfl)
@[go_sem] theorem d4a : a2k (.agg ks) = none := (rfl)
@[go_sem] theorem d4g : a2k (.tup ks) = none := (rfl)
@[go_sem] theorem d4c : a2k (.ifc T k) = none := (rfl)
@[go_sem] theorem d76 : a2k (.fn f a c) = none := (rfl)
@[go_sem] theorem d4f : a2k (.ref t q o e') = some t := (rfl)
@[go_sem] theorem d4b : a2k (.bor t q lo n e') = some t := (rfl)
end
attribute [go_sem] b0v a0w a8b slL slX Wop wrE Option.toList_some Option.toList_none d7b List.forall_mem_cons
end Go.Ideal
end
