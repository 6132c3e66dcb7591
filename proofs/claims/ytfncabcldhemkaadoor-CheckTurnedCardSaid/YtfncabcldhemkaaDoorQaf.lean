/- Part Qaf of the proof: a machine with trees for values, its soundness, and walks on it. -/
import Derived.Test.YtfncabcldhemkaaDoorQae
section
set_option linter.unusedVariables false
set_option linter.unusedSimpArgs false
namespace Go.Ideal
section
variable {P : Program} {G : GG} {N : Nat} {aft : DA} {fps : List (List Nat × List Nat)} {K : St → Prop} {Q : Exit → St → Prop} {st : St} {d : Option Nat} {rest ios : List AO}
theorem a0b {aft : List (List Nat)} (h : b1s P G N (aft, []) ios [] (Q .normal) st) : AW P G N (.draw ios aft) Q st := ⟨[], (fun p hp => by simp at hp), (fun p hp => by simp at hp), b2f (aft := (aft, [])) ios [] (Q .normal) st (fun p hp => by simp at hp) h⟩
@[go_sem] theorem g55 : b0x [] st = True := by simp [b0x]
@[go_sem] theorem g2e {t e : Nat} {V : List (Nat × Nat)} : b0x ((t, e) :: V) st = (d4k (st.s t) = true ∧ st.ep t = e ∧ b0x V st) := by
  apply propext
  constructor
  · intro h; exact ⟨(h (t, e) (by simp)).1, (h (t, e) (by simp)).2, fun p hp => h p (by simp [hp])⟩
  · rintro ⟨h1, h2, h3⟩ p hp
    rcases List.mem_cons.1 hp with rfl | hp
    · exact ⟨h1, h2⟩
    · exact h3 p hp
@[go_sem] theorem f4p {ks : List AV} : d4k (.var ks) = true := (rfl)
@[congr] theorem f3i {V : List (Nat × Nat)} {st' : St} (h : st = st') : b0x V st = b0x V st' := by rw [h]
theorem a0c {aft : List (List Nat)} {V : List (Nat × Nat)} (h : c9t aft fps = true) (h2 : ∀ s, (∀ t, t < N → s.s t = st.s t) → (∀ t, t < N → s.ep t = st.ep t) → K s) : h36 N (aft, V) fps K st :=
  ⟨h, fun s hs => h2 s (fun t ht => (hs t ht).1) (fun t ht => (hs t ht).2)⟩
@[congr] theorem f4c {ios' : List AO} {fps' : List (List Nat × List Nat)} {st' : St} (h : ios = ios') (h2 : fps = fps') (h3 : st = st') : b1s P G N aft ios fps K st = b1s P G N aft ios' fps' K st' := by rw [h, h2, h3]
@[go_sem] theorem g5u : b1s P G N aft [] fps K st = h36 N aft fps K st := (rfl)
def e6j (N : Nat) : List Nat := List.range N
def e6k (P : Program) (G : GG) (N : Nat) (aft : DA) (ex : List Nat) (d : Option Nat) (xs : List X) (rest : List AO) (fps : List (List Nat × List Nat)) (K : St → Prop) (st st' : St) : Prop :=
  (∀ t ∈ ex ++ (d.toList ++ a0k st xs), t < N) ∧ b0x aft.2 st' ∧ b1s P G N aft rest (fps ++ [(ex ++ e6j N, e6j N)]) K st'
def dE (P : Program) (G : GG) (N : Nat) (aft : DA) (ex : List Nat) (d : Option Nat) (i : IOp) (rest : List AO) (fps : List (List Nat × List Nat)) (K : St → Prop) (st : St) (o : Option (List X)) (e : Option St) : Prop := match o, e with
  | some xs, some st' => e53 (f4n N st i) ((∀ t ∈ ex ++ (d.toList ++ a0k st xs), t < N) ∧ (∀ t ∈ Wop st d i, t < N) ∧ fr N (Wop st d i) st st' ∧ b0x aft.2 st' ∧ b1s P G N aft rest (fps ++ [(ex ++ (d.toList ++ b04 aft.2 st xs i), Wop st d i)]) K st') (e6k P G N aft ex d xs rest fps K st st')
  | _, _ => False
@[congr] theorem g41 {ex : List Nat} {i : IOp} {o o' : Option (List X)} {e e' : Option St} (h : o = o') (h2 : e = e') : dE P G N aft ex d i rest fps K st o e = dE P G N aft ex d i rest fps K st o' e' := by rw [h, h2]
@[go_sem] theorem h2p {ex : List Nat} {i : IOp} {xs : List X} {st' : St} : dE P G N aft ex d i rest fps K st (some xs) (some st') = e53 (f4n N st i) ((∀ t ∈ ex ++ (d.toList ++ a0k st xs), t < N) ∧ (∀ t ∈ Wop st d i, t < N) ∧ fr N (Wop st d i) st st' ∧ b0x aft.2 st' ∧ b1s P G N aft rest (fps ++ [(ex ++ (d.toList ++ b04 aft.2 st xs i), Wop st d i)]) K st') (e6k P G N aft ex d xs rest fps K st st') := (rfl)
@[go_sem] theorem g8m {i : IOp} : b1s P G N aft (⟨d, .op i, none⟩ :: rest) fps K st = dE P G N aft [] d i rest fps K st (b7y i) (evS G N d i st) := by
  simp only [b1s, e5x, dE]
  cases b7y i <;> cases evS G N d i st <;> rfl
def dGd (P : Program) (G : GG) (N : Nat) (aft : DA) (v : AV) (want : Bool) (t : Nat) (d : Option Nat) (i : IOp) (rest : List AO) (fps : List (List Nat × List Nat)) (K : St → Prop) (st : St) : Prop := match v with
  | .lit v => if d2z want v then dE P G N aft [t] d i rest fps K st (b7y i) (evS G N d i st) else (∀ u ∈ t :: d.toList, u < N) ∧ b0x aft.2 (a3q d st) ∧ b1s P G N aft rest (fps ++ [([t], d.toList)]) K (a3q d st)
  | _ => False
section
variable {t : Nat} {i : IOp}
@[congr] theorem g2x {v v' : AV} {w : Bool} (h : v = v') : dGd P G N aft v w t d i rest fps K st = dGd P G N aft v' w t d i rest fps K st := by rw [h]
@[go_sem] theorem h4t {j : Nat} {want : Bool} : b1s P G N aft (⟨d, .op i, some (j, t, want)⟩ :: rest) fps K st = dGd P G N aft (st.s t) want t d i rest fps K st := by
  simp only [b1s, dGd]
  cases st.s t <;> try rfl
@[go_sem] theorem h7w : dGd P G N aft (.lit (.bool true)) true t d i rest fps K st = dE P G N aft [t] d i rest fps K st (b7y i) (evS G N d i st) := (rfl)
@[go_sem] theorem h7s : dGd P G N aft (.lit (.bool false)) false t d i rest fps K st = dE P G N aft [t] d i rest fps K st (b7y i) (evS G N d i st) := (rfl)
@[go_sem] theorem h68 : dGd P G N aft (.lit (.bool true)) false t d i rest fps K st = ((∀ u ∈ t :: d.toList, u < N) ∧ b0x aft.2 (a3q d st) ∧ b1s P G N aft rest (fps ++ [([t], d.toList)]) K (a3q d st)) := (rfl)
@[go_sem] theorem h6i : dGd P G N aft (.lit (.bool false)) true t d i rest fps K st = ((∀ u ∈ t :: d.toList, u < N) ∧ b0x aft.2 (a3q d st) ∧ b1s P G N aft rest (fps ++ [([t], d.toList)]) K (a3q d st)) := (rfl)
end
def e4h (P : Program) (G : GG) (N : Nat) (aft : DA) (d : Option Nat) (f : FuncId) (pre : List AV) (rd : List Nat) (rest : List AO) (fps : List (List Nat × List Nat)) (K : St → Prop) (st st1 st2 : St) : Prop :=
  ∃ res W, ACalls P G f pre res ∧ a0r res = true ∧ (∀ t ∈ rd, t < N) ∧ (∀ t ∈ W, t < N) ∧ fr N W st (b4f (if a0z res then st1 else st2) N d res) ∧ b0x aft.2 (b4f (if a0z res then st1 else st2) N d res) ∧ b1s P G N aft rest (fps ++ [(rd, W)]) K (b4f (if a0z res then st1 else st2) N d res)
def f2m (P : Program) (G : GG) (N : Nat) (aft : DA) (d : Option Nat) (f : FuncId) (args : List (Bool × X)) (rest : List AO) (fps : List (List Nat × List Nat)) (K : St → Prop) (st : St) (o1 o2 : Option St) : Prop := match o1, o2 with
  | some st1, some st2 => e4h P G N aft d f (a5s N args.length st2) (d.toList ++ a0k st (args.map (·.2))) rest fps K st st1 st2
  | _, _ => False
def g00 (P : Program) (G : GG) (N : Nat) (aft : DA) (d : Option Nat) (f : FuncId) (args : List (Bool × X)) (rest : List AO) (fps : List (List Nat × List Nat)) (K : St → Prop) (st : St) (o1 : Option St) : Prop := f2m P G N aft d f args rest fps K st o1 (pss N (N + 2) args o1)
section
variable {f : FuncId} {args : List (Bool × X)}
@[congr] theorem f29 {o o' : Option St} (h : o = o') : g00 P G N aft d f args rest fps K st o = g00 P G N aft d f args rest fps K st o' := by rw [h]
@[congr] theorem f4t {o1 o o' : Option St} (h : o = o') : f2m P G N aft d f args rest fps K st o1 o = f2m P G N aft d f args rest fps K st o1 o' := by rw [h]
@[congr] theorem f4k {pre pre' : List AV} {rd rd' : List Nat} {st1 st2 : St} (h : pre = pre') (h2 : rd = rd') : e4h P G N aft d f pre rd rest fps K st st1 st2 = e4h P G N aft d f pre' rd' rest fps K st st1 st2 := by rw [h, h2]
@[go_sem] theorem f74 {st1 : St} : g00 P G N aft d f args rest fps K st (some st1) = f2m P G N aft d f args rest fps K st (some st1) (pss N (N + 2) args (some st1)) := (rfl)
@[go_sem] theorem f66 {st1 st2 : St} : f2m P G N aft d f args rest fps K st (some st1) (some st2) = e4h P G N aft d f (a5s N args.length st2) (d.toList ++ a0k st (args.map (·.2))) rest fps K st st1 st2 := (rfl)
@[go_sem] theorem f6s {tys : List TypeId} : b1s P G N aft (⟨d, .call f args tys, none⟩ :: rest) fps K st = g00 P G N aft d f args rest fps K st (gvs N (N + 2) args (some st)) := by
  simp only [b1s, e5x, g00, f2m, e4h]
  cases gvs N (N + 2) args (some st) with
  | none => rfl
  | some st1 =>
    simp only
    cases pss N (N + 2) args (some st1) <;> rfl
theorem a0p {pre : List AV} {rd : List Nat} {st1 st2 : St} {res : AV} (hA : ACalls P G f pre res) (hn : a0r res = true) (hi : a0z res = true) (hrd : ∀ t ∈ rd, t < N) (W : List Nat) (hW : ∀ t ∈ W, t < N) (hf : fr N W st (b4f st1 N d res)) (h : b0x aft.2 (b4f st1 N d res) ∧ b1s P G N aft rest (fps ++ [(rd, W)]) K (b4f st1 N d res)) : e4h P G N aft d f pre rd rest fps K st st1 st2 :=
  ⟨res, W, hA, hn, hrd, hW, by rw [hi]; exact hf, by rw [hi]; exact h⟩
theorem d9l {pre : List AV} {rd : List Nat} {st1 st2 : St} {res : AV} (hA : ACalls P G f pre res) (hn : a0r res = true) (hi : a0z res = false) (hrd : ∀ t ∈ rd, t < N) (W : List Nat) (hW : ∀ t ∈ W, t < N) (hf : fr N W st (b4f st2 N d res)) (h : b0x aft.2 (b4f st2 N d res) ∧ b1s P G N aft rest (fps ++ [(rd, W)]) K (b4f st2 N d res)) : e4h P G N aft d f pre rd rest fps K st st1 st2 :=
  ⟨res, W, hA, hn, hrd, hW, by rw [hi]; exact hf, by rw [hi]; exact h⟩
end
section
variable {W : List Nat} {st1 : St} {t : Nat} {v : AV}
def frI (b : Bool) (p q : Prop) : Prop := if b then p else q
@[congr] theorem g28 {b b' : Bool} {p q : Prop} (h : b = b') : frI b p q = frI b' p q := by rw [h]
@[go_sem] theorem h8q {p q : Prop} : frI true p q = p := by simp [frI]
def frX (N : Nat) (W : List Nat) (st st' : St) : Prop := fr N W st st'
@[go_sem] theorem h3i : fr N W st st = True := by simp [fr, agr.refl]
theorem e7n {st2 st3 : St} (h : ∀ u, u < N → u ∉ W → agr st2 st3 u) : fr N W st st2 = fr N W st st3 := by
  apply propext
  constructor
  · intro h2 u hu hw; exact (h2 u hu hw).trans (h u hu hw)
  · intro h2 u hu hw; exact (h2 u hu hw).trans (h u hu hw).symm
@[go_sem] theorem h5i : fr N W st (st1.put t v) = frI (W.contains t || decide (N ≤ t)) (fr N W st st1) (frX N W st (st1.put t v)) := by
  simp only [frI, frX]
  split
  · rename_i h
    refine e7n fun u hu hw => (agr.putn v ?_).symm
    rintro rfl
    simp at h
    rcases h with h | h
    · exact hw h
    · omega
  · rfl
@[go_sem] theorem h5p : fr N W st (st1.set t v) = frI (W.contains t || decide (N ≤ t)) (fr N W st st1) (frX N W st (st1.set t v)) := by
  simp only [frI, frX]
  split
  · rename_i h
    refine e7n fun u hu hw => (agr.setn v ?_).symm
    rintro rfl
    simp at h
    rcases h with h | h
    · exact hw h
    · omega
  · rfl
@[go_sem] theorem g86 {M : Nat} : fr N W st (st1.thru M t v) = frI ((W.contains t || decide (N ≤ t)) && decide (N ≤ M)) (fr N W st st1) (frX N W st (st1.thru M t v)) := by
  simp only [frI, frX]
  split
  · rename_i h
    simp only [Bool.and_eq_true, Bool.or_eq_true, decide_eq_true_eq, List.contains_iff_mem] at h
    refine e7n fun u hu hw => ?_
    have h1 : u ≠ M := by omega
    have h2 : u ≠ t := by
      rintro rfl
      rcases h.1 with h | h
      · exact hw h
      · omega
    exact (((agr.putn v h1).trans (agr.putn _ h1)).trans (agr.putn v h2)).symm
  · rfl
@[go_sem] theorem g37 : fr N W st (st1.clear N) = fr N W st st1 := by
  refine e7n fun u hu _ => ?_
  simp [agr, St.clear, hu]
end
end
@[congr] theorem f4h {b b' : Bool} {p q : Prop} (h : b = b') : e53 b p q = e53 b' p q := by rw [h]
@[go_sem] theorem h7i {p q : Prop} : e53 true p q = p := by simp [e53]
section
variable {P : Program} {G : GG} {N : Nat} {aft : DA} {fps : List (List Nat × List Nat)} {K : St → Prop} {st st' : St} {d : Option Nat} {rest : List AO} {ex : List Nat} {xs : List X}
@[go_sem] theorem h55 {p : Prop} : e53 false p (e6k P G N aft ex d xs rest fps K st st') = ((∀ t ∈ ex ++ (d.toList ++ a0k st xs), t < N) ∧ b0x aft.2 st' ∧ b1s P G N aft rest (fps ++ [(ex ++ e6j N, e6j N)]) K st') := by simp only [e53, e6k, Bool.false_eq_true, if_false]
end
@[go_sem] theorem g5v {st : St} {xs : List X} {i : IOp} : b04 [] st xs i = a0k st xs := by unfold b04; split <;> simp
@[go_sem] theorem g9c {V : List (Nat × Nat)} {p : Nat × Nat} {st : St} {xs : List X} {t : Nat} : b04 (p :: V) st xs (.mv (.t t)) = if (p :: V).any (fun p => p.1 == t) then [] else a0k st xs := (rfl)
section
variable {V : List (Nat × Nat)} {st : St} {xs : List X}
@[go_sem] theorem g4u {z0 : X} : b04 V st xs (.asg z0) = a0k st xs := (rfl)
@[go_sem] theorem g64 {z0 : X} : b04 V st xs (.mva z0) = a0k st xs := (rfl)
@[go_sem] theorem g7a {z0 : X} : b04 V st xs (.mvf z0) = a0k st xs := (rfl)
@[go_sem] theorem f7z {z0 : X} {z1 : X} {z2 : X} : b04 V st xs (.pick z0 z1 z2) = a0k st xs := (rfl)
@[go_sem] theorem f2n {z0 : TypeId} {z1 : List AV} : b04 V st xs (.alloc z0 z1) = a0k st xs := (rfl)
@[go_sem] theorem g4w {z0 : TypeId} {z1 : Nat} {z2 : X} : b04 V st xs (.box z0 z1 z2) = a0k st xs := (rfl)
@[go_sem] theorem f5a {z0 : TypeId} {z1 : List AV} {z2 : List (Nat × Nat × Nat × X)} : b04 V st xs (.build z0 z1 z2) = a0k st xs := (rfl)
@[go_sem] theorem f0i {z0 : TypeId} {z1 : TypeId} {z2 : Nat} {z3 : Nat} {z4 : List AV} {z5 : List (Nat × X)} : b04 V st xs (.bslice z0 z1 z2 z3 z4 z5) = a0k st xs := (rfl)
@[go_sem] theorem g1g {z0 : TypeId} {z1 : Option Nat} {z2 : X} : b04 V st xs (.load z0 z1 z2) = a0k st xs := (rfl)
@[go_sem] theorem f2x {z0 : TypeId} {z1 : Nat} {z2 : X} {z3 : X} : b04 V st xs (.store z0 z1 z2 z3) = a0k st xs := (rfl)
@[go_sem] theorem f5k {z0 : X} : b04 V st xs (.nilck z0) = a0k st xs := (rfl)
@[go_sem] theorem g4m {z0 : BinOp} {z1 : TypeId} {z2 : Nat} {z3 : X} {z4 : X} {z5 : TypeId} : b04 V st xs (.bin z0 z1 z2 z3 z4 z5) = a0k st xs := (rfl)
@[go_sem] theorem h3z {z0 : UnOp} {z1 : TypeId} {z2 : X} : b04 V st xs (.un z0 z1 z2) = a0k st xs := (rfl)
@[go_sem] theorem g4f {z0 : BinOp} {z1 : TypeId} {z2 : TypeId} {z3 : TypeId} {z4 : X} {z5 : X} {z6 : TypeId} : b04 V st xs (.eqs z0 z1 z2 z3 z4 z5 z6) = a0k st xs := (rfl)
@[go_sem] theorem g1y {z0 : TypeId} {z1 : TypeId} {z2 : CK} {z3 : X} : b04 V st xs (.conv z0 z1 z2 z3) = a0k st xs := (rfl)
@[go_sem] theorem g5w {z0 : TypeId} {z1 : X} : b04 V st xs (.mki z0 z1) = a0k st xs := (rfl)
@[go_sem] theorem g47 {z0 : FuncId} {z1 : List X} {z2 : List X} : b04 V st xs (.mkf z0 z1 z2) = a0k st xs := (rfl)
@[go_sem] theorem g5z {z0 : TypeId} {z1 : TypeId} {z2 : Nat} {z3 : Nat} {z4 : List AV} {z5 : X} {z6 : X} : b04 V st xs (.mks z0 z1 z2 z3 z4 z5 z6) = a0k st xs := (rfl)
@[go_sem] theorem f3a {z0 : TypeId} {z1 : Nat} {z2 : X} {z3 : Option X} {z4 : Option X} {z5 : Option X} : b04 V st xs (.slice z0 z1 z2 z3 z4 z5) = a0k st xs := (rfl)
@[go_sem] theorem f5j {z0 : TypeId} {z1 : Nat} {z2 : X} {z3 : Nat} : b04 V st xs (.faddr z0 z1 z2 z3) = a0k st xs := (rfl)
@[go_sem] theorem f6a {z0 : TypeId} {z1 : Nat} {z2 : X} {z3 : X} : b04 V st xs (.iaddr z0 z1 z2 z3) = a0k st xs := (rfl)
@[go_sem] theorem g7w {z0 : X} {z1 : Nat} : b04 V st xs (.ext z0 z1) = a0k st xs := (rfl)
@[go_sem] theorem g7x {z0 : X} {z1 : TypeId} {z2 : TypeId} {z3 : List AV} : b04 V st xs (.tas z0 z1 z2 z3) = a0k st xs := (rfl)
@[go_sem] theorem g7u {z0 : TypeId} {z1 : Bool} {z2 : X} : b04 V st xs (.len z0 z1 z2) = a0k st xs := (rfl)
@[go_sem] theorem g68 {z0 : TypeId} {z1 : TypeId} {z2 : Nat} {z3 : Nat} {z4 : X} {z5 : X} : b04 V st xs (.app z0 z1 z2 z3 z4 z5) = a0k st xs := (rfl)
@[go_sem] theorem h2g {z0 : Bool} {z1 : List TypeId} {z2 : List X} : b04 V st xs (.mm z0 z1 z2) = a0k st xs := (rfl)
@[go_sem] theorem g5m {v : Value} : b04 V st xs (.mv (.c v)) = a0k st xs := (rfl)
end
section
variable {v : Value} {n sz o t lo e' : Nat} {ks a c : List AV} {q : List Nat} {T : TypeId} {k : AV} {f : FuncId}
@[go_sem] theorem f1o : a2s .dead = none := (rfl)
@[go_sem] theorem f3j : a2s (.lit v) = none := (rfl)
@[go_sem] theorem f8r : a2s (.sl n ks) = none := (rfl)
@[go_sem] theorem f7k : a2s (.ip ks o) = none := (rfl)
@[go_sem] theorem f3k : a2s (.own sz n ks) = none := (rfl)
@[go_sem] theorem f27 : a2s (.var ks) = none := (rfl)
@[go_sem] theorem f3f : a2s (.agg ks) = none := (rfl)
@[go_sem] theorem f4d : a2s (.tup ks) = none := (rfl)
@[go_sem] theorem f5l : a2s (.ifc T k) = none := (rfl)
@[go_sem] theorem g06 : a2s (.fn f a c) = none := (rfl)
@[go_sem] theorem f31 : a2s (.ref t q o e') = some t := (rfl)
@[go_sem] theorem f5p : a2s (.bor t q lo n e') = some t := (rfl)
end
attribute [go_sem] b7y a0k a19 slL slX Wop wrE Option.toList_some Option.toList_none f4n List.forall_mem_cons
end Go.Ideal
end
