/- Part Qae of the proof: a machine with trees for values, its soundness, and walks on it. -/
import Derived.Test.YtfncabcldhemkaaDoorQad
set_option linter.unusedVariables false
set_option linter.unusedSimpArgs false
section
namespace Go.Ideal
section
variable {P : Program} {G : GG} {N : Nat} {st : St} {K : St -> Prop}
def gvB (st : St) (N t : Nat) (q : List Nat) (lo n j : Nat) (k : Option AV) : Option St := match k with
 | some (.own sz n0 ks) => gO (lo = 0 /\ t < N /\ n <= n0) (some ((st.set t (a0o (st.s t) q .dead)).put j (.own sz n (ks.take (n * sz)))))
 | _ => none
@[congr] theorem e0d {t : Nat} {q : List Nat} {lo n j : Nat} {k k' : Option AV} (h : k = k') : gvB st N t q lo n j k = gvB st N t q lo n j k' := by rw [h]
@[go_sem] theorem f1p {t : Nat} {q : List Nat} {lo n j sz n0 : Nat} {ks : List AV} : gvB st N t q lo n j (some (.own sz n0 ks)) = gO (lo = 0 /\ t < N /\ n <= n0) (some ((st.set t (a0o (st.s t) q .dead)).put j (.own sz n (ks.take (n * sz))))) := (rfl)
def gvS (st : St) (N : Nat) (x : X) (j : Nat) (v : AV) : Option St := match v with
 | .dead => none
 | .bor t q lo n e => gvB st N t q lo n j (a2b st t q e)
 | v => if a0r v then ((a3k x j v).run st).map (·.2) else none
@[congr] theorem e0e {x : X} {j : Nat} {v v' : AV} (h : v = v') : gvS st N x j v = gvS st N x j v' := by rw [h]
theorem c6h (x : X) (j : Nat) : ((c0e N x j).run st).map (·.2) = gvS st N x j (rdv st x) := by
 simp only [c0e, Ev.run_bind, a0u, Option.bind]
 cases hv : rdv st x
 case dead => rfl
 case bor t q lo n e =>
  simp only [gvS, Ev.run_bind, a1l, Option.bind, a0f]
  by_cases he : e = st.ep t
  ·subst he
   simp only [a2b, if_true, beq_self_eq_true, Bool.true_and]
   cases hk : a0e (st.s t) q with
   | none =>
    simp only [gvB]
    generalize (lo == 0 && decide (t < N)) = b
    cases b
    ·rfl
    ·simp only [if_true, a0z, hk]; rfl
   | some k =>
    by_cases h1 : lo = 0
    ·by_cases h2 : t < N
     ·simp only [h1, h2, beq_self_eq_true, decide_true, Bool.and_self, if_true, a0z, hk]
      cases k <;> try rfl
      rename_i sz n0 ks
      simp only [Option.map, gvB, gO, Ev.run_bind, a0f, Option.bind, h2, true_and]
      by_cases h3 : n <= n0
      ·simp only [h3, decide_true, if_true]; rfl
      ·simp only [h3, decide_false, Bool.false_eq_true, if_false]
     ·simp only [h2, decide_false, Bool.and_false, Bool.false_eq_true, if_false]
      cases k <;> try rfl
      simp only [gvB, gO, h2, false_and, and_false, if_false]; rfl
    ·have : (lo == 0) = false := by simpa using h1
     simp only [this, Bool.false_and, Bool.false_eq_true, if_false]
     cases k <;> try rfl
     simp only [gvB, gO, h1, false_and, if_false]; rfl
  ·have : (e == st.ep t) = false := by simpa using he
   simp only [this, Bool.false_and, Bool.false_eq_true, if_false, a2b, he]; rfl
 all_goals (simp only [gvS, Ev.run_bind, a0f, Option.bind]; generalize a0r _ = b; cases b <;> rfl)
section
variable {j : Nat}
def d20 (b : Bool) (r : Option St) : Option St := if b then r else none
@[congr] theorem d6g {b b' : Bool} {r : Option St} (h : b = b') : d20 b r = d20 b' r := by rw [h]
@[go_sem] theorem f8h {r : Option St} : d20 true r = r := (rfl)
@[go_sem] theorem f1r {x : X} {t : Nat} {q : List Nat} {lo n e : Nat} : gvS st N x j (.bor t q lo n e) = gvB st N t q lo n j (a2b st t q e) := (rfl)
@[go_sem] theorem f1t {x : X} {v : Value} : gvS st N x j (.lit v) = some (st.put j (.lit v)) := by cases x <;> rfl
@[go_sem] theorem f7k {x : X} {n : Nat} {ks : List AV} : gvS st N x j (.sl n ks) = some (st.put j (.sl n ks)) := by cases x <;> rfl
@[go_sem] theorem f7i {x : X} {n : Nat} {ks : List AV} : gvS st N x j (.ip ks n) = some (st.put j (.ip ks n)) := by cases x <;> rfl
@[go_sem] theorem f7h {x : X} {f : FuncId} {a b : List AV} : gvS st N x j (.fn f a b) = d20 (a0r (.fn f a b)) (some (st.put j (.fn f a b))) := by
 simp only [gvS, d20]; generalize a0r _ = r; cases r <;> cases x <;> rfl
@[go_sem] theorem f1u {t sz n : Nat} {ks : List AV} : gvS st N (.t t) j (.own sz n ks) = some ((st.put t .dead).put j (.own sz n ks)) := (rfl)
@[go_sem] theorem f7j {t sz n : Nat} {ks : List AV} : gvS st N (.nl t) j (.own sz n ks) = some (st.put j (.own sz n ks)) := (rfl)
@[go_sem] theorem f1w {t : Nat} {ks : List AV} : gvS st N (.t t) j (.var ks) = some ((st.put t .dead).put j (.var ks)) := (rfl)
@[go_sem] theorem f1q {t : Nat} {ks : List AV} : gvS st N (.t t) j (.agg ks) = iO (a0n ks) (some (st.put j (.agg ks))) (some ((st.put t .dead).put j (.agg ks))) := by
 by_cases h : a0n ks = true
 ·simp only [gvS, a0r, if_true, a3k, a0l, iO, h]; rfl
 ·simp only [gvS, a0r, if_true, a3k, a0l, iO, h]; rfl
@[go_sem] theorem f1v {t : Nat} {ks : List AV} : gvS st N (.t t) j (.tup ks) = iO (a0n ks) (some (st.put j (.tup ks))) (some ((st.put t .dead).put j (.tup ks))) := by
 by_cases h : a0n ks = true
 ·simp only [gvS, a0r, if_true, a3k, a0l, iO, h]; rfl
 ·simp only [gvS, a0r, if_true, a3k, a0l, iO, h]; rfl
@[go_sem] theorem f1s {t : Nat} {T : TypeId} {k : AV} : gvS st N (.t t) j (.ifc T k) = iO (a0l k) (some (st.put j (.ifc T k))) (some ((st.put t .dead).put j (.ifc T k))) := by
 by_cases h : a0l k = true
 ·simp only [gvS, a0r, if_true, a3k, a0l, iO, h]; rfl
 ·simp only [gvS, a0r, if_true, a3k, a0l, iO, h]; rfl
end
def psB (st : St) (N t : Nat) (q : List Nat) (lo n j : Nat) (k : Option AV) : Option St := match k with
 | some (.own sz n0 ks) => gO (t < N /\ lo + n <= n0) (some ((st.set t (a0o (st.s t) q (frz (.own sz n0 ks)))).put j (.sl n (((a1n ks).drop (lo * sz)).take (n * sz)))))
 | _ => none
@[congr] theorem e21 {t : Nat} {q : List Nat} {lo n j : Nat} {k k' : Option AV} (h : k = k') : psB st N t q lo n j k = psB st N t q lo n j k' := by rw [h]
@[go_sem] theorem f3r {t : Nat} {q : List Nat} {lo n j sz n0 : Nat} {ks : List AV} : psB st N t q lo n j (some (.own sz n0 ks)) = gO (t < N /\ lo + n <= n0) (some ((st.set t (a0o (st.s t) q (frz (.own sz n0 ks)))).put j (.sl n (((a1n ks).drop (lo * sz)).take (n * sz))))) := (rfl)
def psS (st : St) (N : Nat) (x : X) (j : Nat) (v : AV) : Option St := match v with
 | .dead => none
 | .bor t q lo n e => psB st N t q lo n j (a2b st t q e)
 | v => if a0r v then ((a28 x j v).run st).map (·.2) else none
@[congr] theorem e22 {x : X} {j : Nat} {v v' : AV} (h : v = v') : psS st N x j v = psS st N x j v' := by rw [h]
theorem c6j (x : X) (j : Nat) : ((b6b N x j).run st).map (·.2) = psS st N x j (rdv st x) := by
 simp only [b6b, Ev.run_bind, a0u, Option.bind]
 cases hv : rdv st x
 case dead => rfl
 case bor t q lo n e =>
  simp only [psS, Ev.run_bind, a1l, Option.bind, a0f]
  by_cases he : e = st.ep t
  ·subst he
   simp only [a2b, if_true, beq_self_eq_true, Bool.true_and]
   cases hk : a0e (st.s t) q with
   | none =>
    simp only [psB]
    generalize (decide (t < N)) = b
    cases b
    ·rfl
    ·simp only [if_true, a0z, hk]; rfl
   | some k =>
    by_cases h2 : t < N
    ·simp only [h2, decide_true, if_true, a0z, hk]
     cases k <;> try rfl
     rename_i sz n0 ks
     simp only [Option.map, psB, gO, Ev.run_bind, a0f, Option.bind, h2, true_and]
     by_cases h3 : lo + n <= n0
     ·simp only [h3, decide_true, if_true]; rfl
     ·simp only [h3, decide_false, Bool.false_eq_true, if_false]
    ·simp only [h2, decide_false, Bool.false_eq_true, if_false]
     cases k <;> try rfl
     simp only [psB, gO, h2, false_and, if_false]; rfl
  ·have : (e == st.ep t) = false := by simpa using he
   simp only [this, Bool.false_and, Bool.false_eq_true, if_false, a2b, he]; rfl
 all_goals (simp only [psS, Ev.run_bind, a0f, Option.bind]; generalize a0r _ = b; cases b <;> rfl)
section
variable {j : Nat}
@[go_sem] theorem f3t {x : X} {t : Nat} {q : List Nat} {lo n e : Nat} : psS st N x j (.bor t q lo n e) = psB st N t q lo n j (a2b st t q e) := (rfl)
@[go_sem] theorem f3v {x : X} {v : Value} : psS st N x j (.lit v) = some (st.put j (.lit v)) := by cases x <;> rfl
@[go_sem] theorem f8r {x : X} {n : Nat} {ks : List AV} : psS st N x j (.sl n ks) = some (st.put j (.sl n ks)) := by cases x <;> rfl
@[go_sem] theorem f8p {x : X} {n : Nat} {ks : List AV} : psS st N x j (.ip ks n) = some (st.put j (.ip ks n)) := by cases x <;> rfl
@[go_sem] theorem f8o {x : X} {f : FuncId} {a b : List AV} : psS st N x j (.fn f a b) = d20 (a0r (.fn f a b)) (some (st.put j (.fn f a b))) := by
 simp only [psS, d20]; generalize a0r _ = r; cases r <;> cases x <;> rfl
@[go_sem] theorem f3w {t sz n : Nat} {ks : List AV} : psS st N (.t t) j (.own sz n ks) = some ((st.set t (.sl n (a1n ks))).put j (.sl n (a1n ks))) := (rfl)
@[go_sem] theorem f8q {t sz n : Nat} {ks : List AV} : psS st N (.nl t) j (.own sz n ks) = some (st.put j (.sl n (a1n ks))) := (rfl)
@[go_sem] theorem f3y {t : Nat} {ks : List AV} : psS st N (.t t) j (.var ks) = some ((st.set t (.ip (a1n ks) 0)).put j (.ip (a1n ks) 0)) := (rfl)
@[go_sem] theorem f3s {t : Nat} {ks : List AV} : psS st N (.t t) j (.agg ks) = iO (a0n ks) (some (st.put j (.agg ks))) (some ((st.set t (.agg (a1n ks))).put j (.agg (a1n ks)))) := by
 by_cases h : a0n ks = true
 ·simp only [psS, a0r, if_true, a28, a0l, iO, h]; rfl
 ·simp only [psS, a0r, if_true, a28, a0l, iO, h]; rfl
@[go_sem] theorem f3x {t : Nat} {ks : List AV} : psS st N (.t t) j (.tup ks) = iO (a0n ks) (some (st.put j (.tup ks))) (some ((st.set t (.tup (a1n ks))).put j (.tup (a1n ks)))) := by
 by_cases h : a0n ks = true
 ·simp only [psS, a0r, if_true, a28, a0l, iO, h]; rfl
 ·simp only [psS, a0r, if_true, a28, a0l, iO, h]; rfl
@[go_sem] theorem f3u {t : Nat} {T : TypeId} {k : AV} : psS st N (.t t) j (.ifc T k) = iO (a0l k) (some (st.put j (.ifc T k))) (some ((st.set t (.ifc T (frz k))).put j (.ifc T (frz k)))) := by
 by_cases h : a0l k = true
 ·simp only [psS, a0r, if_true, a28, a0l, iO, h]; rfl
 ·simp only [psS, a0r, if_true, a28, a0l, iO, h]; rfl
end
def gvs (N : Nat) : Nat -> List (Bool × X) -> Option St -> Option St
 | _, _, none => none
 | _, [], some st => some st
 | j, (true, x) :: xs, some st => gvs N (j + 1) xs (gvS st N x j (rdv st x))
 | j, (false, _) :: xs, some st => gvs N (j + 1) xs (some st)
def pss (N : Nat) : Nat -> List (Bool × X) -> Option St -> Option St
 | _, _, none => none
 | _, [], some st => some st
 | j, (false, x) :: xs, some st => pss N (j + 1) xs (psS st N x j (rdv st x))
 | j, (true, _) :: xs, some st => pss N (j + 1) xs (some st)
@[congr] theorem e0f {j : Nat} {xs : List (Bool × X)} {o o' : Option St} (h : o = o') : gvs N j xs o = gvs N j xs o' := by rw [h]
@[congr] theorem e23 {j : Nat} {xs : List (Bool × X)} {o o' : Option St} (h : o = o') : pss N j xs o = pss N j xs o' := by rw [h]
@[go_sem] theorem f1x {j : Nat} : gvs N j [] (some st) = some st := (rfl)
@[go_sem] theorem f9z {j : Nat} {x : X} {xs : List (Bool × X)} : gvs N j ((true, x) :: xs) (some st) = gvs N (j + 1) xs (gvS st N x j (rdv st x)) := (rfl)
@[go_sem] theorem f9y {j : Nat} {x : X} {xs : List (Bool × X)} : gvs N j ((false, x) :: xs) (some st) = gvs N (j + 1) xs (some st) := (rfl)
@[go_sem] theorem f3z {j : Nat} : pss N j [] (some st) = some st := (rfl)
@[go_sem] theorem g0k {j : Nat} {x : X} {xs : List (Bool × X)} : pss N j ((false, x) :: xs) (some st) = pss N (j + 1) xs (psS st N x j (rdv st x)) := (rfl)
@[go_sem] theorem g0l {j : Nat} {x : X} {xs : List (Bool × X)} : pss N j ((true, x) :: xs) (some st) = pss N (j + 1) xs (some st) := (rfl)
theorem c8x {j : Nat} {xs : List (Bool × X)} : gvs N j xs none = none := by cases xs <;> rfl
theorem c9o {j : Nat} {xs : List (Bool × X)} : pss N j xs none = none := by cases xs <;> rfl
theorem a6s : ∀ (xs : List (Bool × X)) (j : Nat) (st : St), ((a4z N j xs).run st).map (·.2) = gvs N j xs (some st)
 | [], j, st => rfl
 | (b, x) :: xs, j, st => by
  simp only [a4z, Ev.run_bind, Option.bind]
  cases b with
  | true =>
   have h := c6h (N := N) (st := st) x j
   simp only [if_true, gvs]
   rw [<- h]
   cases (c0e N x j).run st with
   | none => simp [c8x]
   | some r => exact a6s xs (j + 1) r.2
  | false =>
   simp only [Bool.false_eq_true, if_false, Ev.run_pure]
   exact a6s xs (j + 1) st
theorem a3q : ∀ (xs : List (Bool × X)) (j : Nat) (st : St), ((a3e N j xs).run st).map (·.2) = pss N j xs (some st)
 | [], j, st => rfl
 | (b, x) :: xs, j, st => by
  simp only [a3e, Ev.run_bind, Option.bind]
  cases b with
  | false =>
   have h := c6j (N := N) (st := st) x j
   simp only [Bool.false_eq_true, if_false, pss]
   rw [<- h]
   cases (b6b N x j).run st with
   | none => simp [c9o]
   | some r => exact a3q xs (j + 1) r.2
  | true =>
   simp only [if_true, Ev.run_pure]
   exact a3q xs (j + 1) st
def a9r (st : St) (N : Nat) (d : Option Nat) (res : AV) : St := match d with
 | some d => (st.clear N).thru N d res
 | none => st.clear N
@[go_sem] theorem d9r {d : Nat} {res : AV} : a9r st N (some d) res = (st.clear N).thru N d res := (rfl)
@[go_sem] theorem d9q {res : AV} : a9r st N none res = st.clear N := (rfl)
def cal (P : Program) (G : GG) (N : Nat) (d : Option Nat) (f : FuncId) (pre : List AV) (st1 st2 : St) (K : St -> Prop) : Prop :=
 ∃ res, ACalls P G f pre res /\ a0r res = true /\ K (a9r (if a0x res then st1 else st2) N d res)
def c7z (P : Program) (G : GG) (N : Nat) (d : Option Nat) (f : FuncId) (n : Nat) (o1 o2 : Option St) (K : St -> Prop) : Prop := match o1, o2 with
 | some st1, some st2 => cal P G N d f (a4q N n st2) st1 st2 K
 | _, _ => False
def d1k (P : Program) (G : GG) (N : Nat) (d : Option Nat) (f : FuncId) (args : List (Bool × X)) (o1 : Option St) (K : St -> Prop) : Prop := c7z P G N d f args.length o1 (pss N (N + 2) args o1) K
@[congr] theorem d4n {d : Option Nat} {f : FuncId} {args : List (Bool × X)} {o1 o1' : Option St} (h : o1 = o1') : d1k P G N d f args o1 K = d1k P G N d f args o1' K := by rw [h]
@[congr] theorem d4o {d : Option Nat} {f : FuncId} {n : Nat} {o1 o2 o2' : Option St} (h : o2 = o2') : c7z P G N d f n o1 o2 K = c7z P G N d f n o1 o2' K := by rw [h]
@[congr] theorem d8k {d : Option Nat} {f : FuncId} {pre pre' : List AV} {st1 st2 : St} (h : pre = pre') : cal P G N d f pre st1 st2 K = cal P G N d f pre' st1 st2 K := by rw [h]
@[go_sem] theorem d8i {d : Option Nat} {f : FuncId} {args : List (Bool × X)} : d1k P G N d f args (some st) K = c7z P G N d f args.length (some st) (pss N (N + 2) args (some st)) K := (rfl)
@[go_sem] theorem d8j {d : Option Nat} {f : FuncId} {n : Nat} {st2 : St} : c7z P G N d f n (some st) (some st2) K = cal P G N d f (a4q N n st2) st st2 K := (rfl)
@[go_sem] theorem d7m {d : Option Nat} {f : FuncId} {args : List (Bool × X)} {tys : List TypeId} {rest : List AO} : a9d P G N (⟨d, .call f args tys, none⟩ :: rest) K st = d1k P G N d f args (gvs N (N + 2) args (some st)) (a9d P G N rest K) := by
 simp only [a9d, a82, b30, d02]
 rw [<- a6s]
 apply propext
 constructor
 ·rintro ⟨st1, st2, res, st3, h1, h2, h3, h4, h5, h6⟩
  have e2 := a3q (N := N) args (N + 2) st1
  rw [h2] at e2
  simp only [h1, Option.map, d1k, c7z, <- e2]
  refine ⟨res, h3, h4, ?_⟩
  have : a9r (if a0x res then st1 else st2) N d res = st3 := by
   cases d with
   | none =>
    simp only [b9b, Ev.run_pure, Option.some.injEq, Prod.mk.injEq, true_and] at h5
    exact h5
   | some d =>
    simp only [b9b, a6t, Option.some.injEq, Prod.mk.injEq, true_and] at h5
    exact h5
  rw [this]; exact h6
 ·cases h1 : (a4z N (N + 2) args).run st with
  | none => intro h; simp only [Option.map, d1k, c7z] at h
  | some r =>
   obtain ⟨_, st1⟩ := r
   simp only [Option.map, d1k]
   rw [<- a3q]
   cases h2 : (a3e N (N + 2) args).run st1 with
   | none => intro h; simp only [Option.map, c7z] at h
   | some r2 =>
    obtain ⟨_, st2⟩ := r2
    simp only [Option.map, c7z]
    rintro ⟨res, h3, h4, h5⟩
    refine ⟨st1, st2, res, _, rfl, h2, h3, h4, ?_, h5⟩
    cases d <;> rfl
@[go_sem] theorem f3k : a4q N 0 st = [] := (rfl)
@[go_sem] theorem f3l : a4q N 1 st = [st.s (N + 2 + 0)] := (rfl)
@[go_sem] theorem f3m : a4q N 2 st = [st.s (N + 2 + 0), st.s (N + 2 + 1)] := (rfl)
@[go_sem] theorem f3n : a4q N 3 st = [st.s (N + 2 + 0), st.s (N + 2 + 1), st.s (N + 2 + 2)] := (rfl)
@[go_sem] theorem f3o : a4q N 4 st = [st.s (N + 2 + 0), st.s (N + 2 + 1), st.s (N + 2 + 2), st.s (N + 2 + 3)] := (rfl)
@[go_sem] theorem f3p : a4q N 5 st = [st.s (N + 2 + 0), st.s (N + 2 + 1), st.s (N + 2 + 2), st.s (N + 2 + 3), st.s (N + 2 + 4)] := (rfl)
@[go_sem] theorem f3q : a4q N 6 st = [st.s (N + 2 + 0), st.s (N + 2 + 1), st.s (N + 2 + 2), st.s (N + 2 + 3), st.s (N + 2 + 4), st.s (N + 2 + 5)] := (rfl)
theorem a0j {d : Option Nat} {f : FuncId} {pre : List AV} {st1 st2 : St} {res : AV} (hA : ACalls P G f pre res) (hn : a0r res = true) (hi : a0x res = true) (h : K (a9r st1 N d res)) : cal P G N d f pre st1 st2 K := ⟨res, hA, hn, by rw [hi]; exact h⟩
theorem a6y {d : Option Nat} {f : FuncId} {pre : List AV} {st1 st2 : St} {res : AV} (hA : ACalls P G f pre res) (hn : a0r res = true) (h : K (a9r st1 N d res)) (h2 : K (a9r st2 N d res)) : cal P G N d f pre st1 st2 K := ⟨res, hA, hn, by split; exact h; exact h2⟩
inductive RV where
 | tmp (t : Nat)
 | cell (t : Nat)
 | cells (t sz : Nat)
def RV.ok (P : Program) (N : Nat) : RV -> ResultVar -> Bool
 | .tmp t, .tmp t' => t == t' && decide (t < N)
 | .cell t, .cell t' T => t == t' && decide (t < N) && b4d P T == some false
 | .cells t sz, .cell t' T => t == t' && decide (t < N) && b4d P T == some true && a8o P T sz
 | _, _ => false
def b8x (r : RV) (st : St) : Option AV := match r with
 | .tmp t => if a0r (st.s t) then some (st.s t) else none
 | .cell t => match st.s t with
  | .var [k] => some k
  | _ => none
 | .cells t sz => match st.s t with
  | .var ks => gO (ks.length = sz) (some (.agg ks))
  | _ => none
theorem c06 {r : RV} {v : ResultVar} {k : AV} (h : r.ok P N v = true) (hk : b8x r st = some k) : b1j P N st v = some k := by
 cases r with
 | tmp t =>
  cases v <;> simp only [RV.ok, Bool.and_eq_true, beq_iff_eq, decide_eq_true_eq, Bool.false_eq_true] at h
  obtain ⟨rfl, h⟩ := h
  simp only [b8x] at hk
  simp only [b1j, h, decide_true, Bool.true_and]
  exact hk
 | cell t =>
  cases v <;> simp only [RV.ok, Bool.and_eq_true, beq_iff_eq, decide_eq_true_eq, Bool.false_eq_true] at h
  obtain ⟨⟨rfl, h1⟩, h2⟩ := h
  simp only [b8x] at hk
  simp only [b1j, h1, if_true]
  split at hk
  ·rename_i k' hs
   rw [hs]
   simp only [h2]
   exact hk
  ·cases hk
 | cells t sz =>
  cases v <;> simp only [RV.ok, Bool.and_eq_true, beq_iff_eq, decide_eq_true_eq, Bool.false_eq_true] at h
  obtain ⟨⟨⟨rfl, h1⟩, h2⟩, h3⟩ := h
  simp only [b8x] at hk
  simp only [b1j, h1, if_true]
  split at hk
  ·rename_i ks hs
   simp only [gO] at hk
   split at hk
   ·rename_i hl
    rw [hs]
    simp only [h2, hl, h3, if_true]
    exact hk
   ·cases hk
  ·cases hk
def rvL : List RV -> St -> Option (List AV)
 | [], _ => some []
 | r :: rs, st => match b8x r st, rvL rs st with
  | some k, some ks => some (k :: ks)
  | _, _ => none
def b8y (P : Program) (N : Nat) : List RV -> List ResultVar -> Bool
 | [], [] => true
 | r :: rs, v :: vs => r.ok P N v && b8y P N rs vs
 | _, _ => false
theorem b3h : ∀ {rs : List RV} {vs : List ResultVar} {ks : List AV}, b8y P N rs vs = true -> rvL rs st = some ks -> d0t P N st vs = some ks
 | [], [], ks, _, hk => hk
 | [], _ :: _, ks, h, _ => by cases h
 | _ :: _, [], ks, h, _ => by cases h
 | r :: rs, v :: vs, ks, h, hk => by
  simp only [b8y, Bool.and_eq_true] at h
  simp only [rvL] at hk
  split at hk
  ·rename_i k ks' h1 h2
   simp only [d0t, c06 h.1 h1, b3h h.2 h2]
   exact hk
  ·cases hk
def d63 (rs : List RV) (st : St) : Option AV := match rvL rs st with
 | some [k] => some k
 | some ks => some (.tup ks)
 | none => none
def d1z (rs : List RV) (res : AV) : Exit -> St -> Prop
 | .normal, st | .ret, st => d63 rs st = some res
 | _, _ => False
@[congr] theorem d5d {rs : List RV} {res : AV} {e : Exit} {st' : St} (h2 : st = st') : d1z rs res e st = d1z rs res e st' := by rw [h2]
def rv1 (r : RV) (v : AV) : Option AV := match r with
 | .tmp t => if a0r v then some v else none
 | .cell t => match v with
  | .var [k] => some k
  | _ => none
 | .cells t sz => match v with
  | .var ks => gO (ks.length = sz) (some (.agg ks))
  | _ => none
def avs (a : Option AV) (l : Option (List AV)) : Option (List AV) := match a, l with
 | some k, some ks => some (k :: ks)
 | _, _ => none
def d31 (l : Option (List AV)) : Option AV := match l with
 | some [k] => some k
 | some ks => some (.tup ks)
 | none => none
@[go_sem] theorem f9c {k : AV} : d31 (some [k]) = some k := (rfl)
@[go_sem] theorem f9b : d31 (some []) = some (.tup []) := (rfl)
@[go_sem] theorem f9d {a b : AV} {ks : List AV} : d31 (some (a :: b :: ks)) = some (.tup (a :: b :: ks)) := (rfl)
@[go_sem] theorem e5j {k : AV} {ks : List AV} : avs (some k) (some ks) = some (k :: ks) := (rfl)
@[go_sem] theorem f37 {t : Nat} {v : AV} : rv1 (.tmp t) v = if a0r v then some v else none := (rfl)
@[go_sem] theorem e83 {t : Nat} {k : AV} : rv1 (.cell t) (.var [k]) = some k := (rfl)
@[go_sem] theorem e3x {t sz : Nat} {ks : List AV} : rv1 (.cells t sz) (.var ks) = gO (ks.length = sz) (some (.agg ks)) := (rfl)
@[go_sem] theorem f38 : rvL [] st = some [] := (rfl)
@[go_sem] theorem f39 {t : Nat} {rs : List RV} : rvL (.tmp t :: rs) st = avs (rv1 (.tmp t) (st.s t)) (rvL rs st) := by
 simp only [rvL, avs, b8x, rv1]
@[go_sem] theorem e84 {t : Nat} {rs : List RV} : rvL (.cell t :: rs) st = avs (rv1 (.cell t) (st.s t)) (rvL rs st) := by
 simp only [rvL, avs, b8x, rv1]
@[go_sem] theorem e3y {t sz : Nat} {rs : List RV} : rvL (.cells t sz :: rs) st = avs (rv1 (.cells t sz) (st.s t)) (rvL rs st) := by
 simp only [rvL, avs, b8x, rv1]
@[go_sem] theorem f6s {rs : List RV} {res : AV} : d1z rs res .normal st = (d31 (rvL rs st) = some res) := (rfl)
@[go_sem] theorem f6t {rs : List RV} {res : AV} : d1z rs res .ret st = (d31 (rvL rs st) = some res) := (rfl)
theorem c20 {rs : List RV} {vs : List ResultVar} {res : AV} (h : b8y P N rs vs = true) : ∀ e st, d1z rs res e st -> d5b P N vs res e st := by
 intro e st hq
 have key : d63 rs st = some res -> b27 P N st vs = some res := by
  intro hk
  unfold d63 at hk
  cases hl : rvL rs st with
  | none => rw [hl] at hk; cases hk
  | some ks =>
   rw [hl] at hk
   simp only [b27, b3h h hl]
   exact hk
 cases e <;> first | exact key hq | exact hq
end
theorem ACalls.of_walk {P : Program} {G : GG} {f : FuncId} {fn : Func} {c : Code} {N : Nat} {vs : List ResultVar} {rs : List RV} {ic : IC} (hord : P.follows .mixedOrders = true) (hf : P.funcs[f]? = some fn) (hb : fn.body = some c) (hN : fn.ntmps = N) (hrs : fn.results.toList = vs) (hnd : (vs.map rvT).Nodup)
  (he : a8l c = ic.ec) (hok : ic.ok P N = true) (hr : b8y P N rs vs = true) {pre : List AV} {res : AV} (hsz : pre.length <= N) (h : AW P G N ic (d1z rs res) (St.init pre)) : ACalls P G f pre res :=
 b31 hf hb hN hrs hnd hsz ((c1f hord ic c _ _ he hok (IC.pin_nil ic) h).mono (c20 hr))
end Go.Ideal
end
section
namespace Go.Ideal
section
variable {k : IntKind} {a b : Int}
theorem a3x {b : BinOp} {k : IntKind} {x y : Int} {v : Value} (h : a10 b (.int k x) (.int k y) = some v) {kd : Nat} (hk : kd = 0) : a3b b kd (.lit (.int k x)) (.lit (.int k y)) = some (.lit v) := by
 subst hk; simp [a3b, c3a, h]
theorem d08 : a10 .add (.int k a) (.int k b) = some (.int k (k.wrap (a + b))) := by simp [a10, Op.intArith]; rfl
theorem d1j : a10 .sub (.int k a) (.int k b) = some (.int k (k.wrap (a - b))) := by simp [a10, Op.intArith]; rfl
theorem d1e : a10 .mul (.int k a) (.int k b) = some (.int k (k.wrap (a * b))) := by simp [a10, Op.intArith]; rfl
theorem d09 : a10 .eql (.int k a) (.int k b) = some (.bool (a == b)) := by simp [a10, Op.intCmp]; rfl
theorem d1f : a10 .neq (.int k a) (.int k b) = some (.bool (a != b)) := by simp [a10, Op.intCmp]; rfl
theorem d1d : a10 .lss (.int k a) (.int k b) = some (.bool (decide (a < b))) := by simp [a10, Op.intCmp]; rfl
theorem d1c : a10 .leq (.int k a) (.int k b) = some (.bool (decide (a <= b))) := by simp [a10, Op.intCmp]; rfl
theorem d1b : a10 .gtr (.int k a) (.int k b) = some (.bool (decide (a > b))) := by simp [a10, Op.intCmp]; rfl
theorem d1a : a10 .geq (.int k a) (.int k b) = some (.bool (decide (a ≥ b))) := by simp [a10, Op.intCmp]; rfl
@[go_sem] theorem f5f : a3b .add 0 (.lit (.int k a)) (.lit (.int k b)) = some (.lit (.int k (k.wrap (a + b)))) := a3x d08 rfl
@[go_sem] theorem f5q : a3b .sub 0 (.lit (.int k a)) (.lit (.int k b)) = some (.lit (.int k (k.wrap (a - b)))) := a3x d1j rfl
@[go_sem] theorem f5l : a3b .mul 0 (.lit (.int k a)) (.lit (.int k b)) = some (.lit (.int k (k.wrap (a * b)))) := a3x d1e rfl
@[go_sem] theorem f5g : a3b .eql 0 (.lit (.int k a)) (.lit (.int k b)) = some (.lit (.bool (decide (a = b)))) := by
 rw [a3x d09 rfl]; simp only [Option.some.injEq, AV.lit.injEq, Value.bool.injEq]; by_cases h : a = b <;> simp [h]
@[go_sem] theorem f5m : a3b .neq 0 (.lit (.int k a)) (.lit (.int k b)) = some (.lit (.bool (!decide (a = b)))) := by
 rw [a3x d1f rfl]; simp only [Option.some.injEq, AV.lit.injEq, Value.bool.injEq]; by_cases h : a = b <;> simp [h]
@[go_sem] theorem f5k : a3b .lss 0 (.lit (.int k a)) (.lit (.int k b)) = some (.lit (.bool (decide (a < b)))) := a3x d1d rfl
@[go_sem] theorem f5j : a3b .leq 0 (.lit (.int k a)) (.lit (.int k b)) = some (.lit (.bool (decide (a <= b)))) := a3x d1c rfl
@[go_sem] theorem f5i : a3b .gtr 0 (.lit (.int k a)) (.lit (.int k b)) = some (.lit (.bool (decide (b < a)))) := a3x d1b rfl
@[go_sem] theorem f5h : a3b .geq 0 (.lit (.int k a)) (.lit (.int k b)) = some (.lit (.bool (decide (b <= a)))) := a3x d1a rfl
end
section
variable {a b : Bool}
@[go_sem] theorem e9u : a3b .eql 1 (.lit (.bool a)) (.lit (.bool b)) = some (.lit (.bool (decide (a = b)))) := by cases a <;> cases b <;> rfl
@[go_sem] theorem e9v : a3b .neq 1 (.lit (.bool a)) (.lit (.bool b)) = some (.lit (.bool (!decide (a = b)))) := by cases a <;> cases b <;> rfl
@[go_sem] theorem d7y : a3b .eql 2 (.lit .nilIface) (.lit .nilIface) = some (.lit (.bool true)) := (rfl)
@[go_sem] theorem d71 : a3b .neq 2 (.lit .nilIface) (.lit .nilIface) = some (.lit (.bool false)) := (rfl)
@[go_sem] theorem d7x {T : TypeId} {v : Value} : a3b .eql 2 (.lit (.iface T v)) (.lit .nilIface) = some (.lit (.bool false)) := (rfl)
@[go_sem] theorem d70 {T : TypeId} {v : Value} : a3b .neq 2 (.lit (.iface T v)) (.lit .nilIface) = some (.lit (.bool true)) := (rfl)
@[go_sem] theorem d7w {T : TypeId} {k : AV} : a3b .eql 2 (.ifc T k) (.lit .nilIface) = some (.lit (.bool false)) := (rfl)
@[go_sem] theorem d7z {T : TypeId} {k : AV} : a3b .neq 2 (.ifc T k) (.lit .nilIface) = some (.lit (.bool true)) := (rfl)
@[go_sem] theorem d73 : a3b .eql 3 (.lit (.pointer none)) (.lit (.pointer none)) = some (.lit (.bool true)) := (rfl)
@[go_sem] theorem d75 : a3b .neq 3 (.lit (.pointer none)) (.lit (.pointer none)) = some (.lit (.bool false)) := (rfl)
@[go_sem] theorem d72 {ks : List AV} {o : Nat} : a3b .eql 3 (.ip ks o) (.lit (.pointer none)) = some (.lit (.bool false)) := (rfl)
@[go_sem] theorem d74 {ks : List AV} {o : Nat} : a3b .neq 3 (.ip ks o) (.lit (.pointer none)) = some (.lit (.bool true)) := (rfl)
end
theorem f0b {p : Prop} [Decidable p] (h : p) : decide p = true := decide_eq_true h
theorem f0a {p : Prop} [Decidable p] (h : ¬ p) : decide p = false := decide_eq_false h
theorem a78 {n : Int} (h : -9223372036854775808 <= n /\ n <= 9223372036854775807) : IntKind.i64.wrap n = n := by rw [IntKind.wrap_i64]; omega
section
variable {α : Type} {f : α -> AV}
theorem d2d [Inhabited α] {xs : List α} {i : Nat} (h : i < xs.length) : (xs.map f)[i]? = some (f xs[i]!) := by
 simp [h]
theorem a8h {β : Type} {l : List β} {o : Nat} {v : β} (h : o < l.length) : a0g l o [v] = l.set o v := by
 simp only [a0g, List.length_cons, List.length_nil]
 rw [List.set_eq_take_append_cons_drop, if_pos h]
 simp
theorem c3u {xs : List α} {o : Nat} {v : AV} (h : o < xs.length) : a0g (xs.map f) o [v] = (xs.map f).set o v := a8h (by simpa using h)
theorem b6k {xs : List α} {o i : Nat} {v w : AV} (h : o < xs.length) : a0g ((xs.map f).set i w) o [v] = ((xs.map f).set i w).set o v := a8h (by simpa using h)
@[go_sem] theorem d00 {xs : List α} : List.take xs.length (xs.map f) = xs.map f := List.take_of_length_le (by simp)
end
@[go_sem] theorem d69 {α : Type} {l : List α} {o : Nat} : a0g l o [] = l := by simp [a0g]
@[go_sem] theorem e9c {α : Type} {a x : α} {l xs : List α} : a0g (a :: l) 0 (x :: xs) = x :: a0g l 0 xs := by simp [a0g]
@[go_sem] theorem e9b {α : Type} {a : α} {l xs : List α} {o : Nat} : a0g (a :: l) (o + 1) xs = a :: a0g l o xs := by
 simp [a0g, show o + 1 + xs.length = (o + xs.length) + 1 by omega]
@[go_sem] theorem b0u {α : Type} {f : α -> AV} {xs : List α} (h : ∀ x, a0l (f x) = true) : a0n (xs.map f) = true := by
 induction xs with
 | nil => rfl
 | cons x xs ih => simp [a0n, h, ih]
@[go_sem] theorem b0s {α : Type} {f : α -> AV} {xs : List α} (h : ∀ x, a0x (f x) = true) : a04 (xs.map f) = true := by
 induction xs with
 | nil => rfl
 | cons x xs ih => simp [a04, h, ih]
@[go_sem] theorem e6p {α : Type} {f : α -> AV} {xs : List α} : a1n (xs.map f) = xs.map fun x => frz (f x) := by
 induction xs with
 | nil => rfl
 | cons x xs ih => simp [a1n, ih]
@[go_sem] theorem f8t {n : Nat} {z : AV} : a7g n [z] = List.replicate n z := by
 simp only [a7g]; induction n with
 | zero => rfl
 | succ n ih => simp [List.replicate_succ, ih]
def iG (v : Option AV) : AV := match v with
 | some v => v
 | none => .lit undef
@[go_sem] theorem f10 {v : AV} : iG (some v) = v := (rfl)
@[go_sem] theorem f1z : iG none = .lit undef := (rfl)
@[go_sem] theorem f4a {pre : List AV} {t : Nat} : (St.init pre).s t = iG pre[t]? := by
 simp only [St.init, iG]; cases pre[t]? <;> rfl
@[go_sem] theorem e86 {pre : List AV} {t : Nat} : (St.init pre).ep t = 0 := (rfl)
attribute [go_sem] List.getElem?_cons_zero List.getElem?_cons_succ List.getElem?_nil List.map_nil List.map_cons List.length_cons List.length_nil Nat.zero_add Nat.add_zero Nat.mul_one Nat.mul_zero Nat.zero_mul List.set_cons_zero List.set_cons_succ List.append_nil List.nil_append List.cons_append List.drop_zero List.take_zero List.drop_succ_cons List.take_succ_cons List.take_nil List.drop_nil Int.toNat_natCast List.length_map List.isEmpty_nil List.isEmpty_cons beq_self_eq_true Option.map_some Option.map_none decide_true decide_false and_true true_and Bool.true_or Bool.or_true Bool.false_or Bool.or_false List.take_length List.length_replicate List.map_map Function.comp_def Option.some.injEq
end Go.Ideal
end
section
namespace Go.Ideal
section
variable {P : Program} {G : GG} {N : Nat}
theorem a06 {Q : Exit -> St -> Prop} {st : St} {a : IC} (ι : Type) (I : ι -> St -> Prop) (μ : ι -> Nat) (i0 : ι) (h0 : I i0 st) (h : ∀ i st K, I i st -> (∀ i' st', I i' st' -> μ i' < μ i -> K st') -> AW P G N a (b01 K Q) st) : AW P G N (.loop a) Q st :=
 ⟨ι, I, μ, i0, h0, fun i st hi => h i st _ hi fun i' st' h1 h2 => ⟨i', h1, h2⟩⟩
section
variable {kl : Nat -> List Nat -> Bool} {v : Value} {n sz o e t lo f T : Nat} {q : List Nat} {ks a b : List AV} {k : AV}
@[go_sem] theorem d5v : a05 kl .dead = .dead := by simp only [a05]
@[go_sem] theorem e0o : a05 kl (.lit v) = .lit v := by simp only [a05]
@[go_sem] theorem e62 : a05 kl (.sl n ks) = .sl n ks := by simp only [a05]
@[go_sem] theorem e61 : a05 kl (.ip ks o) = .ip ks o := by simp only [a05]
@[go_sem] theorem e0p : a05 kl (.own sz n ks) = .own sz n ks := by simp only [a05]
@[go_sem] theorem e0s : a05 kl (.var ks) = .var ks := by simp only [a05]
@[go_sem] theorem e0l : a05 kl (.agg ks) = .agg ks := by simp only [a05]
@[go_sem] theorem e0r : a05 kl (.tup ks) = .tup ks := by simp only [a05]
@[go_sem] theorem e0n : a05 kl (.ifc T k) = .ifc T k := by simp only [a05]
@[go_sem] theorem e60 : a05 kl (.fn f a b) = .fn f (b1s kl a) (b1s kl b) := by simp only [a05]
@[go_sem] theorem e0q : a05 kl (.ref t q o e) = if kl t q then .dead else .ref t q o e := by simp only [a05]
@[go_sem] theorem e0m : a05 kl (.bor t q lo n e) = if kl t q then .dead else .bor t q lo n e := by simp only [a05]
@[go_sem] theorem e2e : a0l (.lit v) = true := by simp only [a0l]
@[go_sem] theorem e7y : a0l (.sl n ks) = true := by simp only [a0l]
@[go_sem] theorem e7x : a0l (.ip ks o) = true := by simp only [a0l]
@[go_sem] theorem e7w : a0l (.fn f a b) = true := by simp only [a0l]
@[go_sem] theorem e2g : a0l (.ref t q o e) = true := by simp only [a0l]
@[go_sem] theorem e2c : a0l (.bor t q lo n e) = true := by simp only [a0l]
@[go_sem] theorem f1b : frz (.lit v) = .lit v := by simp only [frz]
@[go_sem] theorem f61 : frz (.sl n ks) = .sl n ks := by simp only [frz]
@[go_sem] theorem f60 : frz (.ip ks o) = .ip ks o := by simp only [frz]
@[go_sem] theorem f6z : frz (.fn f a b) = .fn f a b := by simp only [frz]
@[go_sem] theorem e11 : a0x (.lit v) = true := by simp only [a0x]
@[go_sem] theorem d6b : a0x .dead = true := by simp only [a0x]
@[go_sem] theorem e2f : a0l (.own sz n ks) = false := by simp only [a0l]
@[go_sem] theorem e2i : a0l (.var ks) = false := by simp only [a0l]
@[go_sem] theorem e2b : a0l (.agg ks) = a0n ks := by simp only [a0l]
@[go_sem] theorem e2h : a0l (.tup ks) = a0n ks := by simp only [a0l]
@[go_sem] theorem e2d : a0l (.ifc T k) = a0l k := by simp only [a0l]
@[go_sem] theorem f1c : frz (.own sz n ks) = .sl n (a1n ks) := by simp only [frz]
@[go_sem] theorem f1e : frz (.var ks) = .ip (a1n ks) 0 := by simp only [frz]
@[go_sem] theorem f09 : frz (.agg ks) = .agg (a1n ks) := by simp only [frz]
@[go_sem] theorem f1d : frz (.tup ks) = .tup (a1n ks) := by simp only [frz]
@[go_sem] theorem f1a : frz (.ifc T k) = .ifc T (frz k) := by simp only [frz]
@[go_sem] theorem e7v : a0x (.sl n ks) = ks.isEmpty := by simp only [a0x]
@[go_sem] theorem e7u : a0x (.ip ks o) = false := by simp only [a0x]
@[go_sem] theorem e12 : a0x (.own sz n ks) = a04 ks := by simp only [a0x]
@[go_sem] theorem e17 : a0x (.var ks) = a04 ks := by simp only [a0x]
@[go_sem] theorem e1z : a0x (.agg ks) = a04 ks := by simp only [a0x]
@[go_sem] theorem e16 : a0x (.tup ks) = a04 ks := by simp only [a0x]
@[go_sem] theorem e10 : a0x (.ifc T k) = a0x k := by simp only [a0x]
@[go_sem] theorem e7t : a0x (.fn f a b) = (a04 a && a04 b) := by simp only [a0x]
@[go_sem] theorem e2o : a0r (.ref t q o e) = false := by simp only [a0r]
@[go_sem] theorem e2k : a0r (.bor t q lo n e) = false := by simp only [a0r]
@[go_sem] theorem e7z : a0r (.fn f a b) = (a3v.noRefL a && a3v.noRefL b) := by simp only [a0r]
@[go_sem] theorem e2m : a0r (.lit v) = true := by simp only [a0r]
@[go_sem] theorem e71 : a0r (.sl n ks) = true := by simp only [a0r]
@[go_sem] theorem e70 : a0r (.ip ks o) = true := by simp only [a0r]
@[go_sem] theorem e2n : a0r (.own sz n ks) = true := by simp only [a0r]
@[go_sem] theorem e2q : a0r (.var ks) = true := by simp only [a0r]
@[go_sem] theorem e2j : a0r (.agg ks) = true := by simp only [a0r]
@[go_sem] theorem e2p : a0r (.tup ks) = true := by simp only [a0r]
@[go_sem] theorem e2l : a0r (.ifc T k) = true := by simp only [a0r]
end
attribute [go_sem] f0b f0a e0a a78 d2d c3u b6k List.set_set List.map_append List.length_append List.length_set
end
end Go.Ideal
end
section
namespace Go.Ideal
theorem a32 {N : Nat} {α β : Type} : ∀ (x : Ev α) (f : α -> Ev β) (st : St) (sw : List Nat), (x >>= f).runF N st sw = (x.runF N st sw).bind fun r => ((f r.a).runF N r.st r.sw).map fun r2 => { r2 with rd := r.rd ++ r2.rd, wr := r.wr ++ r2.wr }
 | .ret a, f, st, sw => by
  show (f a).runF N st sw = _
  simp [Ev.runF]
 | .fail, f, st, sw => rfl
 | .get t k, f, st, sw => by
  show (Ev.get t fun v e => k v e >>= f).runF N st sw = _
  simp only [Ev.runF]
  split
  ·rw [a32]
   cases (k (st.s t) (st.ep t)).runF N st sw with
   | none => rfl
   | some r => simp [Function.comp_def]
  ·rfl
 | .getv t k, f, st, sw => by
  show (Ev.getv t fun v => k v >>= f).runF N st sw = _
  simp only [Ev.runF]
  split
  ·rw [a32]
   cases (k (st.s t)).runF N st sw with
   | none => rfl
   | some r => simp [Function.comp_def]
  ·split
   ·rw [a32]
   ·rfl
 | .put t v k, f, st, sw => by
  show (Ev.put t v (k >>= f)).runF N st sw = _
  simp only [Ev.runF]
  split
  ·rw [a32]
   cases k.runF N (st.put t v) sw with
   | none => rfl
   | some r => simp [Function.comp_def]
  ·rw [a32]
 | .upd t v k, f, st, sw => by
  show (Ev.upd t v (k >>= f)).runF N st sw = _
  simp only [Ev.runF]
  split
  ·rw [a32]
   cases k.runF N (st.set t v) sw with
   | none => rfl
   | some r => simp [Function.comp_def]
  ·rw [a32]
 | .kill t q o m k, f, st, sw => by
  show (Ev.kill t q o m (k >>= f)).runF N st sw = _
  simp only [Ev.runF]
  rw [a32]
  cases k.runF N (st.kill t q o m) sw with
  | none => rfl
  | some r => simp [Function.comp_def]
def a2k : AV -> Option Nat
 | .ref t _ _ _ => some t
 | .bor t _ _ _ _ => some t
 | _ => none
def FpP (D : Nat -> Prop) (N : Nat) {α : Type} (e : Ev α) (st : St) (sw : List Nat) (Post : α -> St -> List Nat -> Prop) : Prop :=
 ∀ a st', e.run st = some (a, st') -> ∃ rd wr sw', e.runF N st sw = some ⟨a, st', rd, wr, sw'⟩ /\ (∀ t ∈ rd, D t) /\ (∀ t ∈ wr, D t) /\ Post a st' sw'
section
variable {D : Nat -> Prop} {N : Nat} {α β : Type} {st : St} {sw : List Nat} {Post : β -> St -> List Nat -> Prop} {f : α -> Ev β}
theorem FpP.bindM {x : Ev α} (h : FpP D N x st sw (fun a st' sw' => FpP D N (f a) st' sw' Post)) : FpP D N (x >>= f) st sw Post := by
 intro a st' hr
 rw [Ev.run_bind] at hr
 cases hx : x.run st with
 | none => rw [hx] at hr; cases hr
 | some r =>
  obtain ⟨b, st1⟩ := r
  rw [hx] at hr
  obtain ⟨rd, wr, sw1, h1, h2, h3, h4⟩ := h b st1 hx
  obtain ⟨rd2, wr2, sw2, g1, g2, g3, g4⟩ := h4 a st' hr
  refine ⟨rd ++ rd2, wr ++ wr2, sw2, ?_, ?_, ?_, g4⟩
  ·rw [a32, h1]; simp only [Option.bind, g1, Option.map]
  ·intro t ht; rcases List.mem_append.1 ht with ht | ht; exact h2 t ht; exact g2 t ht
  ·intro t ht; rcases List.mem_append.1 ht with ht | ht; exact h3 t ht; exact g3 t ht
theorem FpP.mono {Q : α -> St -> List Nat -> Prop} {P : α -> St -> List Nat -> Prop} {x : Ev α} (h : FpP D N x st sw P) (hpq : ∀ a st' sw', P a st' sw' -> Q a st' sw') : FpP D N x st sw Q := by
 intro a st' hr
 obtain ⟨rd, wr, sw1, h1, h2, h3, h4⟩ := h a st' hr
 exact ⟨rd, wr, sw1, h1, h2, h3, hpq _ _ _ h4⟩
theorem FpP.ret {a : α} {P : α -> St -> List Nat -> Prop} (h : P a st sw) : FpP D N (Ev.ret a) st sw P := by
 intro b st' hr
 simp only [Ev.run, Option.some.injEq, Prod.mk.injEq] at hr
 obtain ⟨rfl, rfl⟩ := hr
 exact ⟨[], [], sw, rfl, by simp, by simp, h⟩
theorem FpP.fail {P : α -> St -> List Nat -> Prop} : FpP D N (Ev.fail : Ev α) st sw P := by
 intro b st' hr; cases hr
theorem FpP.get {t : Nat} {P : (AV × Nat) -> St -> List Nat -> Prop} (hD : D t) (hN : t < N) (h : P (st.s t, st.ep t) st sw) : FpP D N (b0m t) st sw P := by
 intro b st' hr
 rw [a1l] at hr
 simp only [Option.some.injEq, Prod.mk.injEq] at hr
 obtain ⟨rfl, rfl⟩ := hr
 exact ⟨[t], [], sw, by simp [b0m, Ev.runF, hN], by simpa using hD, by simp, h⟩
theorem FpP.getv {t : Nat} {P : AV -> St -> List Nat -> Prop} (hN : ¬ t < N) (hs : t ∈ sw) (h : P (st.s t) st sw) : FpP D N (c0d t) st sw P := by
 intro b st' hr
 rw [a4r] at hr
 simp only [Option.some.injEq, Prod.mk.injEq] at hr
 obtain ⟨rfl, rfl⟩ := hr
 exact ⟨[], [], sw, by simp [c0d, Ev.runF, hN, hs], by simp, by simp, h⟩
theorem FpP.put {t : Nat} {v : AV} {P : Unit -> St -> List Nat -> Prop} (hD : D t) (hN : t < N) (h : P () (st.put t v) sw) : FpP D N (a2u t v) st sw P := by
 intro b st' hr
 rw [a5y] at hr
 simp only [Option.some.injEq, Prod.mk.injEq, true_and] at hr
 subst hr
 exact ⟨[], [t], sw, by simp [a2u, Ev.runF, hN], by simp, by simpa using hD, h⟩
theorem FpP.putN {t : Nat} {v : AV} {P : Unit -> St -> List Nat -> Prop} (hN : ¬ t < N) (h : P () (st.put t v) (t :: sw)) : FpP D N (a2u t v) st sw P := by
 intro b st' hr
 rw [a5y] at hr
 simp only [Option.some.injEq, Prod.mk.injEq, true_and] at hr
 subst hr
 exact ⟨[], [], t :: sw, by simp [a2u, Ev.runF, hN], by simp, by simp, h⟩
theorem FpP.upd {t : Nat} {v : AV} {P : Unit -> St -> List Nat -> Prop} (hD : D t) (hN : t < N) (h : P () (st.set t v) sw) : FpP D N (b02 t v) st sw P := by
 intro b st' hr
 rw [b6d] at hr
 simp only [Option.some.injEq, Prod.mk.injEq, true_and] at hr
 subst hr
 exact ⟨[], [t], sw, by simp [b02, Ev.runF, hN], by simp, by simpa using hD, h⟩
theorem FpP.kill {t o m : Nat} {q : List Nat} {P : Unit -> St -> List Nat -> Prop} (hD : ∀ u, u < N -> D u) (h : P () (st.kill t q o m) sw) : FpP D N (c25 t q o m) st sw P := by
 intro a st' hr
 rw [b8u] at hr
 simp only [Option.some.injEq, Prod.mk.injEq, true_and] at hr
 subst hr
 exact ⟨List.range N ++ [], List.range N ++ [], sw, rfl, fun u hu => hD u (by simpa using hu), fun u hu => hD u (by simpa using hu), h⟩
theorem FpP.guard {b : Bool} {P : Unit -> St -> List Nat -> Prop} (h : b = true -> P () st sw) : FpP D N (a0i b) st sw P := by
 cases b
 ·exact FpP.fail
 ·exact FpP.ret (h rfl)
theorem FpP.opt {o : Option α} {P : α -> St -> List Nat -> Prop} (h : ∀ a, o = some a -> P a st sw) : FpP D N (a3p o) st sw P := by
 cases o
 ·exact FpP.fail
 ·exact FpP.ret (h _ rfl)
structure XO (D : Nat -> Prop) (N : Nat) (st : St) (x : X) : Prop where
 t : ∀ t, x = .t t -> D t /\ t < N
 b : ∀ u, a2k (rdv st x) = some u -> D u /\ u < N
theorem FpP.read {x : X} {P : (AV × Nat) -> St -> List Nat -> Prop} (hx : XO D N st x) (h : P (rdv st x, rde st x) st sw) : FpP D N (a16 x) st sw P := by
 cases x with
 | t t => exact FpP.get (hx.t t rfl).1 (hx.t t rfl).2 h
 | _ => exact FpP.ret h
theorem FpP.tmp {x : X} {P : Nat -> St -> List Nat -> Prop} (h : ∀ t, x = .t t -> P t st sw) : FpP D N (b16 x) st sw P := by
 cases x with
 | t t => exact FpP.ret (h t rfl)
 | _ => exact FpP.fail
theorem FpP.setD {d : Option Nat} {v : AV} {P : Unit -> St -> List Nat -> Prop} (hd : ∀ t, d = some t -> D t /\ t < N) (h : ∀ t, d = some t -> P () (st.put t v) sw) : FpP D N (setD d v) st sw P := by
 cases d with
 | none => exact FpP.fail
 | some t => exact FpP.put (hd t rfl).1 (hd t rfl).2 (h t rfl)
theorem FpP.thru {d : Option Nat} {v : AV} {M : Nat} {P : Unit -> St -> List Nat -> Prop} (hM : N <= M) (hd : ∀ t, d = some t -> D t /\ t < N) (h : ∀ st' sw', P () st' sw') : FpP D N (a3s M d v) st sw P :=
 FpP.bindM (FpP.putN (Nat.not_lt.2 hM) (FpP.bindM (FpP.putN (Nat.not_lt.2 hM) (FpP.setD hd fun _ _ => h _ _))))
end
abbrev tt {α : Type} : α -> St -> List Nat -> Prop := fun _ _ _ => True
section
variable {D : Nat -> Prop} {N : Nat} {st : St} {sw : List Nat} {d : Option Nat} {x y : X} {G : GG}
abbrev DD (D : Nat -> Prop) (N : Nat) (d : Option Nat) : Prop := ∀ t, d = some t -> D t /\ t < N
theorem d94 (hx : XO D N st x) (hd : DD D N d) : FpP D N (mvE x d) st sw tt := by
 refine FpP.bindM (FpP.read hx ?_)
 cases hv : rdv st x <;> simp only
 case own => cases x <;> exact FpP.setD hd fun _ _ => trivial
 case var => exact FpP.bindM (FpP.tmp fun t ht => FpP.setD hd fun _ _ => trivial)
 case dead => exact FpP.fail
 all_goals (split <;> first | exact FpP.setD hd fun _ _ => trivial | exact FpP.bindM (FpP.tmp fun t ht => FpP.bindM (FpP.upd (hx.t t ht).1 (hx.t t ht).2 (FpP.setD hd fun _ _ => trivial))))
theorem d0j (hx : XO D N st x) (hd : DD D N d) : FpP D N (d38 N x d) st sw tt := by
 have tail : ∀ v : AV, FpP D N (a7p N d x v) st sw tt := by
  intro v
  unfold a7p
  cases x with
  | t t => simp only; split; exact FpP.setD hd fun _ _ => trivial; exact FpP.bindM (FpP.put (hx.t t rfl).1 (hx.t t rfl).2 (FpP.thru (Nat.le_refl _) hd fun _ _ => trivial))
  | _ => simp only; split; exact FpP.setD hd fun _ _ => trivial; exact FpP.thru (Nat.le_refl _) hd fun _ _ => trivial
 refine FpP.bindM (FpP.read hx ?_)
 cases hv : rdv st x <;> simp only
 case dead => exact FpP.fail
 case bor t q lo n e =>
  have hb := hx.b t (by rw [hv]; rfl)
  refine FpP.bindM (FpP.get hb.1 hb.2 (FpP.bindM (FpP.guard fun _ => FpP.bindM (FpP.opt fun k hk => ?_))))
  cases k <;> simp only <;> try exact FpP.fail
  refine FpP.bindM (FpP.guard fun _ => ?_)
  split
  ·exact FpP.bindM (FpP.put hb.1 hb.2 (FpP.thru (Nat.le_refl _) hd fun _ _ => trivial))
  ·exact FpP.bindM (FpP.upd hb.1 hb.2 (FpP.setD hd fun _ _ => trivial))
 all_goals exact tail _
theorem a8u {P : Value -> St -> List Nat -> Prop} (hx : XO D N st x) (h : ∀ v, P v st sw) : FpP D N (b6r x) st sw P := by
 refine FpP.bindM (FpP.read hx ?_)
 cases hv : rdv st x <;> simp only <;> first | exact FpP.ret (h _) | exact FpP.fail
theorem c1x {P : Int -> St -> List Nat -> Prop} (hx : XO D N st x) (h : ∀ v, P v st sw) : FpP D N (c24 x) st sw P := by
 refine FpP.bindM (a8u hx fun v => ?_)
 cases v <;> simp only <;> first | exact FpP.ret (h _) | exact FpP.fail
theorem a6f {x : Option X} {z : Int} {P : Int -> St -> List Nat -> Prop} (hx : ∀ y, x = some y -> XO D N st y) (h : ∀ v, P v st sw) : FpP D N (a2z x z) st sw P := by
 cases x with
 | none => exact FpP.ret (h _)
 | some x => exact c1x (hx x rfl) h
theorem c49 {P : (Nat × List Nat × Nat × Nat) -> St -> List Nat -> Prop} (hx : XO D N st x) (h : ∀ t q lo n, D t -> t < N -> P (t, q, lo, n) st sw) : FpP D N (a6d x) st sw P := by
 refine FpP.bindM (FpP.read hx ?_)
 cases hv : rdv st x <;> simp only <;> try exact FpP.fail
 ·exact FpP.bindM (FpP.tmp fun t ht => FpP.ret (h _ _ _ _ (hx.t t ht).1 (hx.t t ht).2))
 ·rename_i t q lo n e
  have hb := hx.b t (by rw [hv]; rfl)
  exact FpP.bindM (FpP.get hb.1 hb.2 (FpP.bindM (FpP.guard fun _ => FpP.ret (h _ _ _ _ hb.1 hb.2))))
theorem d96 {P : (Nat × List Nat × Nat) -> St -> List Nat -> Prop} (hx : XO D N st x) (h : ∀ t q o, D t -> t < N -> P (t, q, o) st sw) : FpP D N (b9t x) st sw P := by
 refine FpP.bindM (FpP.read hx ?_)
 cases hv : rdv st x <;> simp only <;> try exact FpP.fail
 ·exact FpP.bindM (FpP.tmp fun t ht => FpP.ret (h _ _ _ (hx.t t ht).1 (hx.t t ht).2))
 ·rename_i t q lo e
  have hb := hx.b t (by rw [hv]; rfl)
  exact FpP.bindM (FpP.get hb.1 hb.2 (FpP.bindM (FpP.guard fun _ => FpP.ret (h _ _ _ hb.1 hb.2))))
theorem b5v {P : (Nat × List Nat × Nat × AV × Nat × List AV) -> St -> List Nat -> Prop} (hx : XO D N st x) (h : ∀ t q o v e ks, D t -> t < N -> P (t, q, o, v, e, ks) st sw) : FpP D N (c30 x) st sw P :=
 FpP.bindM (d96 hx fun t q o hD hN => FpP.bindM (FpP.get hD hN (FpP.bindM (FpP.opt fun ks _ => FpP.bindM (FpP.guard fun _ => FpP.ret (h _ _ _ _ _ _ hD hN))))))
theorem c8q {t : Nat} {q : List Nat} {P : AV -> St -> List Nat -> Prop} (hD : D t) (hN : t < N) (h : ∀ k, P k st sw) : FpP D N (c50 t q) st sw P :=
 FpP.bindM (FpP.get hD hN (FpP.opt fun _ _ => h _))
theorem d18 {s : Option Nat} (hx : XO D N st x) (hd : DD D N d) : FpP D N (b73 d s x) st sw tt := by
 refine FpP.bindM (b5v hx fun t q o v e ks hD hN => ?_)
 cases s with
 | none =>
  refine FpP.bindM (FpP.opt fun k _ => ?_)
  cases k <;> simp only [a9u] <;> first | exact FpP.setD hd fun _ _ => trivial | exact FpP.bindM (FpP.guard fun _ => FpP.setD hd fun _ _ => trivial)
 | some s =>
  refine FpP.bindM (FpP.guard fun _ => ?_)
  split
  ·exact FpP.setD hd fun _ _ => trivial
  ·exact FpP.bindM (FpP.upd hD hN (FpP.setD hd fun _ _ => trivial))
end
end Go.Ideal
end
section
namespace Go.Ideal
def BLe (N : Nat) (st st' : St) : Prop := ∀ t, t < N -> a2k (st'.s t) = none \/ a2k (st'.s t) = a2k (st.s t)
theorem BLe.refl {N : Nat} (st : St) : BLe N st st := fun t _ => .inr rfl
theorem BLe.trans {N : Nat} {a b c : St} (h : BLe N a b) (h2 : BLe N b c) : BLe N a c := fun t ht => by
 rcases h2 t ht with h3 | h3
 ·exact .inl h3
 ·rcases h t ht with h4 | h4
  ·exact .inl (h3.trans h4)
  ·exact .inr (h3.trans h4)
theorem BLe.put {N : Nat} {st : St} {t : Nat} {v : AV} (h : a2k v = none) : BLe N st (st.put t v) := fun u _ => by
 simp only [St.put_s]; split
 ·exact .inl h
 ·exact .inr rfl
theorem BLe.putN {N : Nat} {st : St} {t : Nat} {v : AV} (h : ¬ t < N) : BLe N st (st.put t v) := fun u hu => by
 simp only [St.put_s]; rw [if_neg (by omega)]; exact .inr rfl
theorem BLe.set {N : Nat} {st : St} {t : Nat} {v : AV} (h : a2k v = none) : BLe N st (st.set t v) := fun u _ => by
 simp only [St.set_s]; split
 ·exact .inl h
 ·exact .inr rfl
theorem XO.le {D : Nat -> Prop} {N : Nat} {st st' : St} {x : X} (h : XO D N st x) (hl : BLe N st st') : XO D N st' x where
 t := h.t
 b u hu := by
  cases x with
  | t t =>
   have ht := h.t t rfl
   simp only [rdv] at hu
   rcases hl t ht.2 with h1 | h1
   ·rw [h1] at hu; cases hu
   ·exact h.b u (by simp only [rdv]; rw [<- h1]; exact hu)
  | _ => cases hu
theorem a5t {v k : AV} {q : List Nat} {k' : AV} (hk : a0e v q = some k) (h : a2k k' = none) : a2k (a0o v q k') = none := by
 cases q with
 | nil => exact h
 | cons i q =>
  cases v <;> simp only [a0e, a0p, reduceCtorEq] at hk
  ·simp only [a0o, a0p]; split <;> rfl
  ·simp only [a0o, a0p]; split <;> rfl
section
variable {D : Nat -> Prop} {N : Nat} {st : St} {sw : List Nat} {d : Option Nat} {x y : X} {G : GG}
theorem c0a {P : Unit -> St -> List Nat -> Prop} (hx : XO D N st x) (h : ∀ st' sw', BLe N st st' -> (∀ t ∈ sw, t ∈ sw') -> N ∈ sw' -> (∀ t, N < t -> st'.s t = st.s t) -> P () st' sw') : FpP D N (a3v x N) st sw P := by
 have hN : ¬ N < N := Nat.lt_irrefl _
 have one : ∀ {v : AV}, a2k (AV.dead) = none -> FpP D N (a2u N v) st sw P := fun _ => FpP.putN hN (h _ _ (BLe.putN hN) (fun t ht => by simp [ht]) (by simp) (fun t ht => by simp [Nat.ne_of_gt ht]))
 have two : ∀ {v : AV} (t : Nat), x = .t t -> FpP D N (do a2u t .dead; a2u N v) st sw P := fun t ht => FpP.bindM (FpP.put (hx.t t ht).1 (hx.t t ht).2 (FpP.putN hN (h _ _ ((BLe.put rfl).trans (BLe.putN hN)) (fun t ht => by simp [ht]) (by simp) (fun u hu => by
  have := (hx.t t ht).2
  simp [Nat.ne_of_gt hu, show u ≠ t by omega]))))
 refine FpP.bindM (FpP.read hx ?_)
 cases hv : rdv st x <;> simp only
 case dead => exact FpP.fail
 case tup => exact FpP.fail
 case ref => exact FpP.fail
 case bor t q lo n e =>
  have hb := hx.b t (by rw [hv]; rfl)
  refine FpP.bindM (FpP.get hb.1 hb.2 (FpP.bindM (FpP.guard fun _ => FpP.bindM (FpP.opt fun k hk => ?_))))
  cases k <;> simp only <;> try exact FpP.fail
  refine FpP.bindM (FpP.guard fun _ => FpP.bindM (FpP.upd hb.1 hb.2 (FpP.putN hN (h _ _ ((BLe.set (a5t hk rfl)).trans (BLe.putN hN)) (fun t ht => by simp [ht]) (by simp) (fun u hu => by
   have := hb.2
   simp [Nat.ne_of_gt hu, show u ≠ t by omega])))))
 case agg => exact FpP.bindM (FpP.tmp fun t ht => two t ht)
 case own =>
  cases x with
  | t t => exact two t rfl
  | _ => exact one rfl
 case var => exact FpP.bindM (FpP.tmp fun t ht => two t ht)
 case ifc => exact FpP.bindM (FpP.tmp fun t ht => two t ht)
 case mp => exact FpP.bindM (FpP.tmp fun t ht => two t ht)
 case fn => exact FpP.bindM (FpP.guard fun _ => one rfl)
 all_goals exact FpP.bindM (FpP.guard fun _ => one rfl)
theorem b7s {j : Nat} {P : List AV -> St -> List Nat -> Prop} (hN : ¬ j < N) (hs : j ∈ sw) (h : ∀ ks, P ks st sw) : FpP D N (b89 j) st sw P := by
 refine FpP.bindM (FpP.getv hN hs ?_)
 cases st.s j <;> simp only <;> first | exact FpP.ret (h _) | exact FpP.fail
theorem d9y {T : TypeId} {sz : Nat} (hx : XO D N st x) (hd : DD D N d) : FpP D N (a07 G N d (.box T sz x)) st sw tt := by
 have hN : ¬ N < N := Nat.lt_irrefl _
 exact FpP.bindM (c0a hx fun st' sw' _ _ hs _ => FpP.bindM (b7s hN hs fun ks => FpP.bindM (FpP.guard fun _ => FpP.thru (Nat.le_refl _) hd fun _ _ => trivial)))
theorem b5u : ∀ (l : List (Nat × Nat × X)) {st : St} {sw : List Nat} {P : Unit -> St -> List Nat -> Prop}, (∀ p ∈ l, XO D N st p.2.2) -> (N + 1) ∈ sw -> (∀ st' sw', (N + 1) ∈ sw' -> P () st' sw') -> FpP D N (a6p N l) st sw P
 | [], st, sw, P, _, hs, h => FpP.ret (h _ _ hs)
 | (off, sz, x) :: rest, st, sw, P, hx, hs, h => by
  have hN : ¬ N < N := Nat.lt_irrefl _
  have hN1 : ¬ N + 1 < N := by omega
  refine FpP.bindM (c0a (hx (off, sz, x) (by simp)) fun st1 sw1 hb hsw hNs _ => FpP.bindM (b7s hN hNs fun ks => FpP.bindM (b7s hN1 (hsw _ hs) fun zs => FpP.bindM (FpP.guard fun _ => FpP.bindM (FpP.putN hN (FpP.bindM (FpP.putN hN1 ?_)))))))
  exact b5u rest (fun p hp => (hx p (by simp [hp])).le (hb.trans ((BLe.put rfl).trans (BLe.putN hN1)))) (by simp) h
theorem c8i {T : TypeId} {zs : List AV} {parts : List (Nat × Nat × Nat × X)} (hx : ∀ p ∈ parts, XO D N st p.2.2.2) (hd : DD D N d) : FpP D N (a07 G N d (.build T zs parts)) st sw tt := by
 have hN1 : ¬ N + 1 < N := by omega
 refine FpP.bindM (FpP.putN hN1 (FpP.bindM (b5u _ (fun p hp => ?_) (by simp) fun st' sw' hs => FpP.bindM (b7s hN1 hs fun ks => FpP.bindM (FpP.putN hN1 (FpP.setD hd fun _ _ => trivial))))))
 obtain ⟨r, hr, rfl⟩ := List.mem_map.1 hp
 exact (hx r hr).le (BLe.putN hN1)
theorem c5a {T e : TypeId} {sz len : Nat} {zs : List AV} {parts : List (Nat × X)} (hx : ∀ p ∈ parts, XO D N st p.2) (hd : DD D N d) : FpP D N (a07 G N d (.bslice T e sz len zs parts)) st sw tt := by
 have hN1 : ¬ N + 1 < N := by omega
 refine FpP.bindM (FpP.putN hN1 (FpP.bindM (b5u _ (fun p hp => ?_) (by simp) fun st' sw' hs => FpP.bindM (b7s hN1 hs fun ks => FpP.thru (by omega) hd fun _ _ => trivial))))
 obtain ⟨r, hr, rfl⟩ := List.mem_map.1 hp
 exact (hx r hr).le (BLe.putN hN1)
theorem c8t {T : TypeId} {s : Nat} (hx : XO D N st x) (hy : XO D N st y) (hd : d = none) (hk : ∀ r, giv st N y (rdv st y) = some r -> a0n r.2 = true \/ ∀ t, t < N -> D t) : FpP D N (a07 G N d (.store T s x y)) st sw tt := by
 have hN : ¬ N < N := Nat.lt_irrefl _
 refine FpP.bindM (FpP.guard fun _ => ?_)
 have hg : FpP D N (a3v y N) st sw (fun _ st' sw' => (BLe N st st' /\ N ∈ sw') /\ ∃ r, giv st N y (rdv st y) = some r /\ st'.s N = .agg r.2) := by
  intro a st' hr
  obtain ⟨rd, wr, sw', h1, h2, h3, h4⟩ := c0a (P := fun _ st' sw' => BLe N st st' /\ N ∈ sw') (sw := sw) hy (fun st' sw' h1 _ h2 _ => ⟨h1, h2⟩) a st' hr
  refine ⟨rd, wr, sw', h1, h2, h3, h4, ?_⟩
  rw [a95] at hr
  cases hgv : giv st N y (rdv st y) with
  | none => rw [hgv] at hr; cases hr
  | some r =>
   rw [hgv] at hr
   simp only [Option.map, Option.some.injEq, Prod.mk.injEq, true_and] at hr
   exact ⟨r, rfl, by rw [<- hr]; simp⟩
 refine FpP.bindM (FpP.mono hg fun a st' sw' ⟨⟨hb, hs⟩, r, hr, hsN⟩ => ?_)
 have hno := hk r hr
 refine FpP.bindM (FpP.mono (b5v (P := fun p st2 sw2 => (D p.1 /\ p.1 < N) /\ st2 = st' /\ sw2 = sw') (hx.le hb) fun t q o v e ks hD htN => ⟨⟨hD, htN⟩, rfl, rfl⟩) ?_)
 rintro ⟨t, q, o, v, e, ks⟩ st2 sw2 ⟨⟨hD, htN⟩, rfl, rfl⟩
 refine FpP.bindM (FpP.mono (P := fun ks2 st3 sw3 => ks2 = r.2 /\ st3 = st2 /\ sw3 = sw2) (FpP.bindM (FpP.getv hN hs (by rw [hsN]; exact FpP.ret ⟨rfl, rfl, rfl⟩))) ?_)
 rintro cs st3 sw3 ⟨rfl, rfl, rfl⟩
 refine FpP.bindM (FpP.guard fun _ => FpP.bindM (FpP.putN hN ?_))
 rcases hno with hno | hall
 ·rw [if_pos hno]
  exact FpP.upd hD htN trivial
 ·split
  ·exact FpP.upd hD htN trivial
  ·exact FpP.bindM (FpP.kill hall (FpP.upd hD htN trivial))
theorem c8p (hx : XO D N st x) (hd : DD D N d) : FpP D N (a07 G N d (.nilck x)) st sw tt := by
 refine FpP.bindM (FpP.read hx ?_)
 cases hv : rdv st x <;> simp only <;> first | exact FpP.setD hd fun _ _ => trivial | exact FpP.bindM (b5v hx fun _ _ _ _ _ _ _ _ => FpP.setD hd fun _ _ => trivial)
theorem c8k {T : TypeId} {off f : Nat} (hx : XO D N st x) (hd : DD D N d) : FpP D N (a07 G N d (.faddr T off x f)) st sw tt := by
 refine FpP.bindM (FpP.read hx ?_)
 cases hv : rdv st x <;> simp only <;> first | exact FpP.setD hd fun _ _ => trivial | exact FpP.bindM (b5v hx fun _ _ _ _ _ _ _ _ => FpP.setD hd fun _ _ => trivial)
theorem c5b {T : TypeId} {s : Option Nat} (hx : XO D N st x) (hd : DD D N d) : FpP D N (a07 G N d (.load T s x)) st sw tt := by
 refine FpP.bindM (FpP.read hx ?_)
 simp only
 split
 ·exact FpP.bindM (FpP.opt fun _ _ => FpP.setD hd fun _ _ => trivial)
 ·exact FpP.bindM (FpP.opt fun _ _ => FpP.bindM (FpP.guard fun _ => FpP.setD hd fun _ _ => trivial))
 ·exact FpP.bindM (FpP.guard fun _ => FpP.setD hd fun _ _ => trivial)
 ·exact d18 hx hd
theorem c8m {T : TypeId} {sz : Nat} {i : X} (hx : XO D N st x) (hi : XO D N st i) (hd : DD D N d) : FpP D N (a07 G N d (.iaddr T sz x i)) st sw tt := by
 refine FpP.bindM (c1x hi fun n => FpP.bindM (FpP.guard fun _ => FpP.bindM (FpP.read hx ?_)))
 have rest : FpP D N (do
   let (t, q, lo, m) <- a6d x
   a0i (decide (n < (m : Int)))
   let v <- b0m t
   let k <- a3p (a0e v.1 q)
   match k with
   | .own sz' n0 _ => do
    a0i (sz' == sz && decide (lo + m <= n0))
    setD d (.ref t q ((lo + n.toNat) * sz) v.2)
   | _ => .fail) st sw tt := by
  refine FpP.bindM (c49 hx fun t q lo m hD hN => FpP.bindM (FpP.guard fun _ => FpP.bindM (FpP.get hD hN (FpP.bindM (FpP.opt fun k _ => ?_)))))
  cases k <;> simp only <;> first | exact FpP.fail | exact FpP.bindM (FpP.guard fun _ => FpP.setD hd fun _ _ => trivial)
 cases hv : rdv st x <;> simp only <;> first | exact FpP.bindM (FpP.guard fun _ => FpP.setD hd fun _ _ => trivial) | exact rest
theorem c8n {T : TypeId} {b : Bool} (hx : XO D N st x) (hd : DD D N d) : FpP D N (a07 G N d (.len T b x)) st sw tt := by
 cases b with
 | true =>
  refine FpP.bindM (a8u hx fun v => ?_)
  cases v <;> simp only <;> first | exact FpP.fail | exact FpP.setD hd fun _ _ => trivial
 | false =>
  refine FpP.bindM (FpP.read hx ?_)
  have rest : FpP D N (do
   let (t, q, lo, n) <- a6d x
   let k <- c50 t q
   match k with
   | .own _ n0 _ => do
    a0i (decide (lo + n <= n0))
    setD d (.lit (.int .i64 n))
   | _ => .fail) st sw tt := by
   refine FpP.bindM (c49 hx fun t q lo m hD hN => FpP.bindM (c8q hD hN fun k => ?_))
   cases k <;> simp only <;> first | exact FpP.fail | exact FpP.bindM (FpP.guard fun _ => FpP.setD hd fun _ _ => trivial)
  cases hv : rdv st x <;> simp only <;> first | exact FpP.setD hd fun _ _ => trivial | exact rest
theorem d9x {b : BinOp} {T kd : Nat} {yT : TypeId} (hx : XO D N st x) (hy : XO D N st y) (hd : DD D N d) : FpP D N (a07 G N d (.bin b T kd x y yT)) st sw tt :=
 FpP.bindM (FpP.read hx (FpP.bindM (FpP.read hy (FpP.bindM (FpP.opt fun _ _ => FpP.setD hd fun _ _ => trivial)))))
theorem f06 {u : UnOp} {T : TypeId} (hx : XO D N st x) (hd : DD D N d) : FpP D N (a07 G N d (.un u T x)) st sw tt :=
 FpP.bindM (a8u hx fun _ => FpP.bindM (FpP.opt fun _ _ => FpP.setD hd fun _ _ => trivial))
theorem d2b {c : X} (hc : XO D N st c) (hx : XO D N st x) (hy : XO D N st y) (hd : DD D N d) : FpP D N (a07 G N d (.pick c x y)) st sw tt :=
 FpP.bindM (a8u hc fun _ => FpP.bindM (FpP.read hx (FpP.bindM (FpP.read hy (FpP.bindM (FpP.opt fun _ _ => FpP.setD hd fun _ _ => trivial))))))
theorem c8h {T : TypeId} {zs : List AV} (hd : DD D N d) : FpP D N (a07 G N d (.alloc T zs)) st sw tt := FpP.thru (Nat.le_refl _) hd fun _ _ => trivial
theorem c8j {s t : TypeId} {k : IntKind} (hx : XO D N st x) (hd : DD D N d) : FpP D N (a07 G N d (.conv s t (.int k) x)) st sw tt := by
 refine FpP.bindM (a8u hx fun v => ?_)
 cases v <;> simp only <;> first | exact FpP.fail | exact FpP.setD hd fun _ _ => trivial
theorem d92 {T : TypeId} (hx : XO D N st x) (hd : DD D N d) : FpP D N (a07 G N d (.mki T x)) st sw tt := by
 refine FpP.bindM (FpP.read hx ?_)
 cases hv : rdv st x <;> simp only <;> first | exact FpP.fail | exact FpP.setD hd fun _ _ => trivial | exact FpP.bindM (FpP.tmp fun t ht => FpP.bindM (FpP.upd (hx.t t ht).1 (hx.t t ht).2 (FpP.setD hd fun _ _ => trivial)))
theorem d93 {T e : TypeId} {sz by_ : Nat} {zs : List AV} (hx : XO D N st x) (hy : XO D N st y) (hd : DD D N d) : FpP D N (a07 G N d (.mks T e sz by_ zs x y)) st sw tt :=
 FpP.bindM (c1x hx fun _ => FpP.bindM (c1x hy fun _ => FpP.bindM (FpP.guard fun _ => FpP.thru (Nat.le_refl _) hd fun _ _ => trivial)))
theorem d90 {i : Nat} (hx : XO D N st x) (hd : DD D N d) : FpP D N (a07 G N d (.ext x i)) st sw tt := by
 refine FpP.bindM (FpP.read hx ?_)
 cases hv : rdv st x <;> simp only <;> try exact FpP.fail
 refine FpP.bindM (FpP.opt fun k _ => ?_)
 split
 ·exact FpP.setD hd fun _ _ => trivial
 ·exact FpP.bindM (FpP.tmp fun t ht => FpP.bindM (FpP.put (hx.t t ht).1 (hx.t t ht).2 (FpP.thru (Nat.le_refl _) hd fun _ _ => trivial)))
theorem d91 {T off f : Nat} (hx : XO D N st x) (hd : DD D N d) : FpP D N (a07 G N d (.fld T off x f)) st sw tt := by
 refine FpP.bindM (FpP.read hx ?_)
 cases hv : rdv st x <;> simp only <;> try exact FpP.fail
 exact FpP.bindM (FpP.opt fun k _ => FpP.bindM (FpP.guard fun _ => FpP.setD hd fun _ _ => trivial))
theorem d0k {P : Int -> St -> List Nat -> Prop} (hx : XO D N st x) (h : ∀ v, P v st sw) : FpP D N (d2g x) st sw P := by
 refine FpP.bindM (a8u hx fun v => ?_)
 split
 ·exact FpP.ret (h _)
 ·exact FpP.fail
theorem c5c {P : (Nat × List Nat × AV × List Int × List AV) -> St -> List Nat -> Prop} (hx : XO D N st x) (h : ∀ t q v keys vals, D t -> t < N -> P (t, q, v, keys, vals) st sw) : FpP D N (d2v x) st sw P := by
 refine FpP.bindM (FpP.read hx ?_)
 cases hv : rdv st x <;> simp only <;> try exact FpP.fail
 rename_i t q lo n e
 have hb := hx.b t (by rw [hv]; rfl)
 refine FpP.bindM (FpP.get hb.1 hb.2 (FpP.bindM (FpP.guard fun _ => FpP.bindM (FpP.opt fun k _ => ?_))))
 cases k <;> simp only <;> first | exact FpP.fail | exact FpP.ret (h _ _ _ _ _ hb.1 hb.2)
theorem c8o {T : TypeId} (hd : DD D N d) : FpP D N (a07 G N d (.mkmap T)) st sw tt := FpP.thru (Nat.le_refl _) hd fun _ _ => trivial
theorem d19 {T e : TypeId} {zs : List AV} (hx : XO D N st x) (hy : XO D N st y) (hd : DD D N d) : FpP D N (a07 G N d (.mget T e zs x y)) st sw tt := by
 refine FpP.bindM (c5c hx fun t q v keys vals _ _ => FpP.bindM (d0k hy fun n => ?_))
 split
 ·exact FpP.bindM (FpP.guard fun _ => FpP.setD hd fun _ _ => trivial)
 ·exact FpP.bindM (FpP.guard fun _ => FpP.setD hd fun _ _ => trivial)
theorem d2a {T e : TypeId} {z : X} (hx : XO D N st x) (hy : XO D N st y) (hz : XO D N st z) : FpP D N (a07 G N d (.mset T e x y z)) st sw tt :=
 FpP.bindM (FpP.guard fun _ => FpP.bindM (c5c hx fun t q v keys vals hD hN => FpP.bindM (d0k hy fun n => FpP.bindM (FpP.read hz (FpP.bindM (FpP.guard fun _ => FpP.upd hD hN trivial))))))
theorem d98 {xT T : TypeId} {zs : List AV} (hx : XO D N st x) (hd : DD D N d) : FpP D N (a07 G N d (.tas x xT T zs)) st sw tt := by
 refine FpP.bindM (FpP.read hx ?_)
 simp only
 split
 ·exact FpP.setD hd fun _ _ => trivial
 ·exact FpP.setD hd fun _ _ => trivial
 ·exact FpP.bindM (FpP.guard fun _ => FpP.setD hd fun _ _ => trivial)
 ·exact FpP.fail
theorem f05 {mx : Bool} {ts : List TypeId} (hx : XO D N st x) (hy : XO D N st y) (hd : DD D N d) : FpP D N (a07 G N d (.mm mx ts [x, y])) st sw tt := by
 refine FpP.bindM (a8u hx fun u => FpP.bindM (a8u hy fun v => ?_))
 split
 ·exact FpP.bindM (FpP.guard fun _ => FpP.setD hd fun _ _ => trivial)
 ·exact FpP.fail
theorem d9z {b : BinOp} {T tp te : TypeId} {yT : TypeId} (hx : XO D N st x) (hy : XO D N st y) (hd : DD D N d) : FpP D N (a07 G N d (.eqs b T tp te x y yT)) st sw tt := by
 refine FpP.bindM (a8u hx fun u => FpP.bindM (a8u hy fun v => ?_))
 split
 ·refine FpP.bindM (FpP.guard fun _ => ?_)
  split <;> first | exact FpP.setD hd fun _ _ => trivial | exact FpP.fail
 ·exact FpP.fail
end
end Go.Ideal
end
section
namespace Go.Ideal
open Classical
section
variable {D : Nat -> Prop} {N : Nat} {st : St} {sw : List Nat} {d : Option Nat} {x y : X} {G : GG}
theorem c8s {T : TypeId} {sz : Nat} {lo hi : Option X} (hx : XO D N st x) (hlo : ∀ y, lo = some y -> XO D N st y) (hhi : ∀ y, hi = some y -> XO D N st y) (hd : DD D N d) : FpP D N (a07 G N d (.slice T sz x lo hi none)) st sw tt := by
 refine FpP.bindM (FpP.read hx ?_)
 have rest : FpP D N (do
   a0i (decide (0 < sz))
   let (t, q, lo0, n) <- a6d x
   let v <- b0m t
   let k <- a3p (a0e v.1 q)
   match k with
   | .own sz' n0 _ => do
    let l <- a2z lo 0
    let h <- a2z hi n
    a0i (decide (0 <= l) && decide (l <= h) && decide (h <= (n : Int)) && decide (lo0 + n <= n0) && sz' == sz && (lo0 == 0 || l == 0 || decide (l < h)))
    match (none : Option X) with
    | none => setD d (.bor t q (lo0 + l.toNat) (h - l).toNat v.2)
    | some m => do
     let m <- c24 m
     a0i (l == 0 && h == 0 && m == 0 && hi.isSome)
     a3s N d (.own sz 0 [])
   | _ => .fail) st sw tt := by
  refine FpP.bindM (FpP.guard fun _ => FpP.bindM (c49 hx fun t q lo0 n hD hN => FpP.bindM (FpP.get hD hN (FpP.bindM (FpP.opt fun k _ => ?_)))))
  cases k <;> simp only <;> try exact FpP.fail
  exact FpP.bindM (a6f hlo fun _ => FpP.bindM (a6f hhi fun _ => FpP.bindM (FpP.guard fun _ => FpP.setD hd fun _ _ => trivial)))
 cases hv : rdv st x
 case lit v =>
  cases v <;> simp only <;> try exact rest
  exact FpP.bindM (a6f hlo fun _ => FpP.bindM (a6f hhi fun _ => FpP.bindM (FpP.guard fun _ => FpP.setD hd fun _ _ => trivial)))
 case sl => exact FpP.bindM (FpP.guard fun _ => FpP.bindM (a6f hlo fun _ => FpP.bindM (a6f hhi fun _ => FpP.bindM (FpP.guard fun _ => FpP.setD hd fun _ _ => trivial))))
 all_goals exact rest
theorem d2c {P : Unit -> St -> List Nat -> Prop} (hx : XO D N st x) (h : ∀ st' sw', BLe N st st' -> N ∈ sw' -> P () st' sw') : FpP D N (c1b x N) st sw P := by
 have hN : ¬ N < N := Nat.lt_irrefl _
 refine FpP.bindM (FpP.read hx ?_)
 cases hv : rdv st x <;> simp only <;> try exact FpP.fail
 ·cases x with
  | t t => exact FpP.bindM (FpP.put (hx.t t rfl).1 (hx.t t rfl).2 (FpP.putN hN (h _ _ ((BLe.put rfl).trans (BLe.putN hN)) (by simp))))
  | _ => exact FpP.putN hN (h _ _ (BLe.putN hN) (by simp))
 ·rename_i t q lo n e
  have hb := hx.b t (by rw [hv]; rfl)
  refine FpP.bindM (FpP.get hb.1 hb.2 (FpP.bindM (FpP.guard fun _ => FpP.bindM (FpP.opt fun k hk => ?_))))
  cases k <;> simp only <;> try exact FpP.fail
  exact FpP.bindM (FpP.guard fun _ => FpP.bindM (FpP.upd hb.1 hb.2 (FpP.putN hN (h _ _ ((BLe.set (a5t hk rfl)).trans (BLe.putN hN)) (by simp)))))
theorem d97 {P : Unit -> St -> List Nat -> Prop} (hx : XO D N st x) (h : ∀ st' sw', (∀ t ∈ sw, t ∈ sw') -> N + 1 ∈ sw' -> P () st' sw') : FpP D N (d7a x N) st sw P := by
 have hN : ¬ N + 1 < N := by omega
 refine FpP.bindM (FpP.read hx ?_)
 cases hv : rdv st x <;> simp only <;> try exact FpP.fail
 ·exact FpP.putN hN (h _ _ (fun t ht => by simp [ht]) (by simp))
 ·cases x with
  | t t => exact FpP.bindM (FpP.put (hx.t t rfl).1 (hx.t t rfl).2 (FpP.putN hN (h _ _ (fun t ht => by simp [ht]) (by simp))))
  | _ => exact FpP.putN hN (h _ _ (fun t ht => by simp [ht]) (by simp))
 ·rename_i t q lo n e
  have hb := hx.b t (by rw [hv]; rfl)
  refine FpP.bindM (FpP.get hb.1 hb.2 (FpP.bindM (FpP.guard fun _ => FpP.bindM (FpP.opt fun k hk => ?_))))
  cases k <;> simp only <;> try exact FpP.fail
  exact FpP.bindM (FpP.guard fun _ => FpP.bindM (FpP.upd hb.1 hb.2 (FpP.putN hN (h _ _ (fun t ht => by simp [ht]) (by simp)))))
theorem d9w {T e : TypeId} {sz by_ : Nat} (hx : XO D N st x) (hy : XO D N st y) (hd : DD D N d) : FpP D N (a07 G N d (.app T e sz by_ x y)) st sw tt := by
 have hN : ¬ N < N := Nat.lt_irrefl _
 have hN1 : ¬ N + 1 < N := by omega
 refine FpP.bindM (d2c hx fun st1 sw1 hb hs => FpP.bindM (d97 (hy.le hb) fun st2 sw2 hsw hs1 => FpP.bindM (FpP.getv hN (hsw _ hs) (FpP.bindM (FpP.getv hN1 hs1 ?_)))))
 split
 ·exact FpP.bindM (FpP.guard fun _ => FpP.bindM (FpP.putN hN1 (FpP.thru (Nat.le_refl _) hd fun _ _ => trivial)))
 ·exact FpP.bindM (FpP.guard fun _ => FpP.bindM (FpP.putN hN1 (FpP.thru (Nat.le_refl _) hd fun _ _ => trivial)))
 ·exact FpP.fail
theorem c8l {j : Nat} (hj : N <= j) {P : Unit -> St -> List Nat -> Prop} (hx : XO D N st x) (h : ∀ st' sw', BLe N st st' -> (∀ t ∈ sw, t ∈ sw') -> j ∈ sw' -> P () st' sw') : FpP D N (c0e N x j) st sw P := by
 have hN : ¬ j < N := Nat.not_lt.2 hj
 have one : ∀ {v : AV}, FpP D N (a2u j v) st sw P := FpP.putN hN (h _ _ (BLe.putN hN) (fun t ht => by simp [ht]) (by simp))
 have tail : ∀ v : AV, FpP D N (a3k x j v) st sw P := by
  intro v
  unfold a3k
  cases x with
  | t t =>
   simp only
   split
   ·exact one
   ·exact FpP.bindM (FpP.put (hx.t t rfl).1 (hx.t t rfl).2 (FpP.putN hN (h _ _ ((BLe.put rfl).trans (BLe.putN hN)) (fun t ht => by simp [ht]) (by simp))))
  | _ => exact one
 refine FpP.bindM (FpP.read hx ?_)
 cases hv : rdv st x <;> simp only
 case dead => exact FpP.fail
 case bor t q lo n e =>
  have hb := hx.b t (by rw [hv]; rfl)
  refine FpP.bindM (FpP.get hb.1 hb.2 (FpP.bindM (FpP.guard fun _ => FpP.bindM (FpP.opt fun k hk => ?_))))
  cases k <;> simp only <;> try exact FpP.fail
  exact FpP.bindM (FpP.guard fun _ => FpP.bindM (FpP.upd hb.1 hb.2 (FpP.putN hN (h _ _ ((BLe.set (a5t hk rfl)).trans (BLe.putN hN)) (fun t ht => by simp [ht]) (by simp)))))
 all_goals exact FpP.bindM (FpP.guard fun _ => tail _)
theorem c7x {v : AV} (h : a0l v = false) : a2k (frz v) = none := by
 cases v <;> first | rfl | simp [a0l] at h
theorem c8r {j : Nat} (hj : N <= j) {P : Unit -> St -> List Nat -> Prop} (hx : XO D N st x) (h : ∀ st' sw', BLe N st st' -> (∀ t ∈ sw, t ∈ sw') -> j ∈ sw' -> P () st' sw') : FpP D N (b6b N x j) st sw P := by
 have hN : ¬ j < N := Nat.not_lt.2 hj
 have one : ∀ {v : AV}, FpP D N (a2u j v) st sw P := FpP.putN hN (h _ _ (BLe.putN hN) (fun t ht => by simp [ht]) (by simp))
 have tail : ∀ v : AV, FpP D N (a28 x j v) st sw P := by
  intro v
  unfold a28
  cases x with
  | t t =>
   simp only
   split
   ·exact one
   ·rename_i hno
    exact FpP.bindM (FpP.upd (hx.t t rfl).1 (hx.t t rfl).2 (FpP.putN hN (h _ _ ((BLe.set (c7x (by simpa using hno))).trans (BLe.putN hN)) (fun t ht => by simp [ht]) (by simp))))
  | _ => exact one
 refine FpP.bindM (FpP.read hx ?_)
 cases hv : rdv st x <;> simp only
 case dead => exact FpP.fail
 case bor t q lo n e =>
  have hb := hx.b t (by rw [hv]; rfl)
  refine FpP.bindM (FpP.get hb.1 hb.2 (FpP.bindM (FpP.guard fun _ => FpP.bindM (FpP.opt fun k hk => ?_))))
  cases k <;> simp only <;> try exact FpP.fail
  exact FpP.bindM (FpP.guard fun _ => FpP.bindM (FpP.upd hb.1 hb.2 (FpP.putN hN (h _ _ ((BLe.set (a5t hk rfl)).trans (BLe.putN hN)) (fun t ht => by simp [ht]) (by simp)))))
 all_goals exact FpP.bindM (FpP.guard fun _ => tail _)
theorem c1w : ∀ (xs : List (Bool × X)) (j : Nat) {st : St} {sw : List Nat} {P : Unit -> St -> List Nat -> Prop}, N <= j -> (∀ p ∈ xs, XO D N st p.2) -> (∀ st' sw', BLe N st st' -> (∀ t ∈ sw, t ∈ sw') -> (∀ i x, xs[i]? = some (true, x) -> j + i ∈ sw') -> P () st' sw') -> FpP D N (a4z N j xs) st sw P
 | [], j, st, sw, P, hj, hx, h => FpP.ret (h _ _ (BLe.refl _) (fun _ h => h) (fun i x hi => by simp at hi))
 | (b, x) :: xs, j, st, sw, P, hj, hx, h => by
  refine FpP.bindM ?_
  have go : ∀ st1 sw1, BLe N st st1 -> (∀ t ∈ sw, t ∈ sw1) -> (b = true -> j ∈ sw1) -> FpP D N (a4z N (j + 1) xs) st1 sw1 P := fun st1 sw1 hb hs hj1 =>
   c1w xs (j + 1) (by omega) (fun p hp => (hx p (by simp [hp])).le hb) fun st2 sw2 hb2 hs2 hi => h _ _ (hb.trans hb2) (fun t ht => hs2 t (hs t ht)) fun i y hy => by
    cases i with
    | zero =>
     simp only [List.getElem?_cons_zero, Option.some.injEq, Prod.mk.injEq] at hy
     exact hs2 _ (hj1 hy.1)
    | succ i => rw [show j + (i + 1) = j + 1 + i by omega]; exact hi i y (by simpa using hy)
  cases b with
  | true => exact c8l hj (hx (true, x) (by simp)) fun st1 sw1 hb hs hj1 => go st1 sw1 hb hs fun _ => hj1
  | false => exact FpP.ret (go st sw (BLe.refl _) (fun _ h => h) fun hc => by cases hc)
theorem b7t : ∀ (xs : List (Bool × X)) (j : Nat) {st : St} {sw : List Nat} {P : Unit -> St -> List Nat -> Prop}, N <= j -> (∀ p ∈ xs, XO D N st p.2) -> (∀ st' sw', (∀ t ∈ sw, t ∈ sw') -> (∀ i x, xs[i]? = some (false, x) -> j + i ∈ sw') -> P () st' sw') -> FpP D N (a3e N j xs) st sw P
 | [], j, st, sw, P, hj, hx, h => FpP.ret (h _ _ (fun _ h => h) (fun i x hi => by simp at hi))
 | (b, x) :: xs, j, st, sw, P, hj, hx, h => by
  refine FpP.bindM ?_
  have go : ∀ st1 sw1, BLe N st st1 -> (∀ t ∈ sw, t ∈ sw1) -> (b = false -> j ∈ sw1) -> FpP D N (a3e N (j + 1) xs) st1 sw1 P := fun st1 sw1 hb hs hj1 =>
   b7t xs (j + 1) (by omega) (fun p hp => (hx p (by simp [hp])).le hb) fun st2 sw2 hs2 hi => h _ _ (fun t ht => hs2 t (hs t ht)) fun i y hy => by
    cases i with
    | zero =>
     simp only [List.getElem?_cons_zero, Option.some.injEq, Prod.mk.injEq] at hy
     exact hs2 _ (hj1 hy.1)
    | succ i => rw [show j + (i + 1) = j + 1 + i by omega]; exact hi i y (by simpa using hy)
  cases b with
  | false => exact c8r hj (hx (false, x) (by simp)) fun st1 sw1 hb hs hj1 => go st1 sw1 hb hs fun _ => hj1
  | true => exact FpP.ret (go st sw (BLe.refl _) (fun _ h => h) fun hc => by cases hc)
end
def b0v : IOp -> Option (List X)
 | .mv x => some [x]
 | .asg x => some [x]
 | .mva x => some [x]
 | .mvf x => some [x]
 | .pick c x y => some [c, x, y]
 | .alloc _ _ => some []
 | .box _ _ x => some [x]
 | .build _ _ parts => some (parts.map fun p => p.2.2.2)
 | .bslice _ _ _ _ _ parts => some (parts.map fun p => p.2)
 | .load _ _ x => some [x]
 | .store _ _ x y => some [x, y]
 | .nilck x => some [x]
 | .bin _ _ _ x y _ => some [x, y]
 | .un _ _ x => some [x]
 | .eqs _ _ _ _ x y _ => some [x, y]
 | .conv _ _ (.int _) x => some [x]
 | .mki _ x => some [x]
 | .mks _ _ _ _ _ x y => some [x, y]
 | .slice _ _ x lo hi none => some (x :: (lo.toList ++ hi.toList))
 | .faddr _ _ x _ => some [x]
 | .iaddr _ _ x i => some [x, i]
 | .ext x _ => some [x]
 | .fld _ _ x _ => some [x]
 | .tas x _ _ _ => some [x]
 | .len _ _ x => some [x]
 | .app _ _ _ _ x y => some [x, y]
 | .mm _ _ [x, y] => some [x, y]
 | .mkmap _ => some []
 | .mget _ _ _ x k => some [x, k]
 | .mset _ _ x k v => some [x, k, v]
 | _ => none
def d7b (N : Nat) (st : St) : IOp -> Bool
 | .store _ _ _ y => match giv st N y (rdv st y) with
  | some r => a0n r.2
  | none => true
 | _ => true
def c6s (N : Nat) (st : St) : IOp -> Prop
 | .store _ _ _ y => match giv st N y (rdv st y) with
  | some r => a0n r.2 = true
  | none => True
 | _ => True
theorem d3z {N : Nat} {st : St} {i : IOp} (h : d7b N st i = true) : c6s N st i := by
 cases i <;> try trivial
 simp only [d7b, c6s] at h ⊢
 split <;> rename_i hh
 ·rw [hh] at h; exact h
 ·trivial
theorem d95 {D : Nat -> Prop} {N : Nat} {st : St} {sw : List Nat} {d : Option Nat} {G : GG} {i : IOp} {xs : List X} (ho : b0v i = some xs) (hx : ∀ x ∈ xs, XO D N st x) (hd : DD D N d) (hs : c6s N st i \/ ∀ t, t < N -> D t) : FpP D N (a07 G N d i) st sw tt := by
 cases i <;> simp only [b0v, Option.some.injEq, reduceCtorEq] at ho
 case mv => subst ho; exact d94 (hx _ (by simp)) hd
 case asg => subst ho; exact d0j (hx _ (by simp)) hd
 case mva => subst ho; exact d0j (hx _ (by simp)) hd
 case mvf => subst ho; exact d94 (hx _ (by simp)) hd
 case pick => subst ho; exact d2b (hx _ (by simp)) (hx _ (by simp)) (hx _ (by simp)) hd
 case alloc => exact c8h hd
 case box => subst ho; exact d9y (hx _ (by simp)) hd
 case build => subst ho; exact c8i (fun p hp => hx _ (List.mem_map.2 ⟨p, hp, rfl⟩)) hd
 case bslice => subst ho; exact c5a (fun p hp => hx _ (List.mem_map.2 ⟨p, hp, rfl⟩)) hd
 case load => subst ho; exact c5b (hx _ (by simp)) hd
 case store T s x y =>
  subst ho
  by_cases hdn : d = none
  ·refine c8t (hx _ (by simp)) (hx _ (by simp)) hdn fun r hr => ?_
   rcases hs with hs | hs
   ·simp only [c6s, hr] at hs
    exact .inl hs
   ·exact .inr hs
  ·intro a st' hr
   exfalso
   cases d with
   | none => exact hdn rfl
   | some d => cases hr
 case nilck => subst ho; exact c8p (hx _ (by simp)) hd
 case bin => subst ho; exact d9x (hx _ (by simp)) (hx _ (by simp)) hd
 case un => subst ho; exact f06 (hx _ (by simp)) hd
 case eqs => subst ho; exact d9z (hx _ (by simp)) (hx _ (by simp)) hd
 case conv s t k x =>
  cases k <;> simp only [b0v, Option.some.injEq, reduceCtorEq] at ho
  subst ho; exact c8j (hx _ (by simp)) hd
 case mki => subst ho; exact d92 (hx _ (by simp)) hd
 case mks => subst ho; exact d93 (hx _ (by simp)) (hx _ (by simp)) hd
 case slice T sz x lo hi mx =>
  cases mx <;> simp only [b0v, Option.some.injEq, reduceCtorEq] at ho
  subst ho
  exact c8s (hx _ (by simp)) (fun y hy => hx _ (by simp [hy])) (fun y hy => hx _ (by simp [hy])) hd
 case faddr => subst ho; exact c8k (hx _ (by simp)) hd
 case iaddr => subst ho; exact c8m (hx _ (by simp)) (hx _ (by simp)) hd
 case ext => subst ho; exact d90 (hx _ (by simp)) hd
 case fld => subst ho; exact d91 (hx _ (by simp)) hd
 case tas => subst ho; exact d98 (hx _ (by simp)) hd
 case len => subst ho; exact c8n (hx _ (by simp)) hd
 case mkmap => exact c8o hd
 case mget => subst ho; exact d19 (hx _ (by simp)) (hx _ (by simp)) hd
 case mset => subst ho; exact d2a (hx _ (by simp)) (hx _ (by simp)) (hx _ (by simp))
 case app => subst ho; exact d9w (hx _ (by simp)) (hx _ (by simp)) hd
 case mm mx ts xs2 =>
  match xs2, ho with
  | [x, y], ho =>
   simp only [Option.some.injEq] at ho
   subst ho
   exact f05 (hx _ (by simp)) (hx _ (by simp)) hd
end Go.Ideal
end
section
namespace Go.Ideal
open Classical
def a8b (st : St) : X -> List Nat
 | .t n => n :: (a2k (st.s n)).toList
 | _ => []
def a0w (st : St) : List X -> List Nat
 | [] => []
 | x :: xs => a8b st x ++ a0w st xs
def slX : X -> List Nat
 | .t n => [n]
 | _ => []
def slL : List X -> List Nat
 | [] => []
 | x :: xs => slX x ++ slL xs
theorem b5p {st : St} {x : X} : ∀ {xs : List X}, x ∈ xs -> ∀ t ∈ a8b st x, t ∈ a0w st xs
 | y :: ys, h, t, ht => by
  rcases List.mem_cons.1 h with rfl | h
  ·simp [a0w, ht]
  ·simp [a0w, b5p h t ht]
theorem d33 {DL : List Nat} {N : Nat} {st : St} {xs : List X} (h : ∀ t ∈ a0w st xs, t ∈ DL) (hN : ∀ t ∈ DL, t < N) : ∀ x ∈ xs, XO (· ∈ DL) N st x := fun x hx => {
 t := fun t ht => by
  subst ht
  have := h t (b5p hx t (by simp [a8b]))
  exact ⟨this, hN t this⟩
 b := fun u hu => by
  cases x with
  | t t =>
   have := h u (b5p hx u (by simp [a8b, show a2k (st.s t) = some u from hu]))
   exact ⟨this, hN u this⟩
  | _ => cases hu }
def fr (N : Nat) (W : List Nat) (st st' : St) : Prop := ∀ t, t < N -> t ∉ W -> agr st st' t
section
variable {V : List (Nat × Nat)} {P : Program} {G : GG} {N : Nat} {st st' : St} {step : (St -> Prop) -> St -> Prop}
theorem Loc.widen {rd wr DL W : List Nat} (h : Loc P G N V step st st' rd wr) (h1 : ∀ t ∈ rd, t ∈ DL) (h2 : ∀ t ∈ wr, t ∈ DL) (h3 : ∀ t ∈ DL, t < N) (h4 : ∀ t ∈ W, t < N) (hf : fr N W st st') : Loc P G N V step st st' DL W where
 lt t ht := ht.elim (h3 t) (h4 t)
 frame t ht hn := hf t ht hn
 loc st2 hV hst K hK := h.loc st2 hV (fun t ht => hst t (.inl (ht.elim (h1 t) (h2 t)))) K fun st2' g1 g2 => hK st2' (fun t ht => by
   by_cases hw : t ∈ wr
   ·exact g1 t hw
   ·exact ((h.frame t (h4 t ht) hw).symm.trans (hst t (.inr ht))).trans (g2 t (h4 t ht) hw)) (fun t ht hn => by
   by_cases hw : t ∈ wr
   ·exact ((hst t (.inl (h2 t hw))).symm.trans (hf t ht hn)).trans (g1 t hw)
   ·exact g2 t ht hw)
theorem e05 {d : Option Nat} {i : IOp} {xs : List X} {W : List Nat} (ho : b0v i = some xs) (he : evS G N d i st = some st') (hN : ∀ t ∈ d.toList ++ a0w st xs, t < N) (hW : ∀ t ∈ W, t < N) (hs : c6s N st i) (hf : fr N W st st') :
  Loc P G N V (b30 P G N d (.op i)) st st' (d.toList ++ a0w st xs) W := by
 have hx := d33 (DL := d.toList ++ a0w st xs) (st := st) (xs := xs) (fun t ht => by simp [ht]) hN
 have hd : DD (· ∈ d.toList ++ a0w st xs) N d := fun t ht => by
  subst ht
  exact ⟨by simp, hN t (by simp)⟩
 unfold evS at he
 cases hr : (a07 G N d i).run st with
 | none => rw [hr] at he; cases he
 | some r =>
  obtain ⟨u, st1⟩ := r
  rw [hr] at he
  simp only [Option.map, Option.some.injEq] at he
  subst he
  obtain ⟨rd, wr, sw', g1, g2, g3, _⟩ := d95 (sw := []) ho hx hd (.inl hs) u st1 hr
  obtain ⟨st2, rd2, wr2, ⟨rfl, rfl, rfl⟩, hL⟩ := b5j (V := V) (P := P) (G := G) (N := N) (d := d) (act := .op i) (st := st) (K := fun st2 rd2 wr2 => st2 = st1 /\ rd2 = rd /\ wr2 = wr) (by simp only [d7p, g1, and_self])
  exact hL.widen g2 g3 hN hW hf
theorem d2q {d : Nat} {p : Nat × Nat} (hI : a6v V st) (hp : p ∈ V) (hd : d < N) (he : evS G N (some d) (.mv (.t p.1)) st = some st') : Loc P G N V (b30 P G N (some d) (.op (.mv (.t p.1)))) st st' (some d).toList [d] /\ True := by
 have run : ∀ s : St, a6v V s -> (a07 G N (some d) (.mv (.t p.1))).run s = some ((), s.put d (.ref p.1 [] 0 p.2)) := by
  intro s hs
  obtain ⟨h1, h2⟩ := hs p hp
  cases hv : s.s p.1 <;> simp only [hv, b7v, reduceCtorEq] at h1
  simp only [a07, mvE, Ev.run_bind, a0u, rdv, rde, hv, b16, Ev.run, setD, a2u, Option.bind, h2]
 have hst : st' = st.put d (.ref p.1 [] 0 p.2) := by
  simp only [evS, run st hI, Option.map, Option.some.injEq] at he
  exact he.symm
 subst hst
 refine ⟨⟨fun t ht => ?_, fun t ht hn => ?_, fun st2 hV2 hag K hK => ?_⟩, trivial⟩
 ·rcases ht with ht | ht <;> simp at ht <;> subst ht <;> exact hd
 ·exact agr.putn _ (by simpa using hn)
 ·simp only [b30, run st2 hV2]
  refine hK _ (fun t ht => (hag t (.inr ht)).put _) (fun t ht hn => agr.putn _ (by simpa using hn))
theorem c87 {d : Option Nat} {i : IOp} {xs : List X} (ho : b0v i = some xs) (he : evS G N d i st = some st') (hN : ∀ t ∈ d.toList ++ a0w st xs, t < N) :
  Loc P G N V (b30 P G N d (.op i)) st st' (List.range N) (List.range N) := by
 have hx : ∀ x ∈ xs, XO (· < N) N st x := fun x hx => by
  have := d33 (DL := d.toList ++ a0w st xs) (st := st) (xs := xs) (fun t ht => by simp [ht]) hN x hx
  exact { t := fun t ht => ⟨(this.t t ht).2, (this.t t ht).2⟩, b := fun u hu => ⟨(this.b u hu).2, (this.b u hu).2⟩ }
 have hd : DD (· < N) N d := fun t ht => by
  subst ht
  exact ⟨hN t (by simp), hN t (by simp)⟩
 unfold evS at he
 cases hr : (a07 G N d i).run st with
 | none => rw [hr] at he; cases he
 | some r =>
  obtain ⟨u, st1⟩ := r
  rw [hr] at he
  simp only [Option.map, Option.some.injEq] at he
  subst he
  obtain ⟨rd, wr, sw', g1, g2, g3, _⟩ := d95 (sw := []) ho hx hd (.inr fun t ht => ht) u st1 hr
  obtain ⟨st2, rd2, wr2, ⟨rfl, rfl, rfl⟩, hL⟩ := b5j (V := V) (P := P) (G := G) (N := N) (d := d) (act := .op i) (st := st) (K := fun st2 rd2 wr2 => st2 = st1 /\ rd2 = rd /\ wr2 = wr) (by simp only [d7p, g1, and_self])
  exact hL.widen (fun t ht => List.mem_range.2 (g2 t ht)) (fun t ht => List.mem_range.2 (g3 t ht)) (fun t ht => List.mem_range.1 ht) (fun t ht => List.mem_range.1 ht) (fun t ht hn => absurd (List.mem_range.2 ht) hn)
theorem c86 {d : Option Nat} {f : FuncId} {args : List (Bool × X)} {tys : List TypeId} {st1 st2 : St} {res : AV} {W : List Nat} (h1 : gvs N (N + 2) args (some st) = some st1) (h2 : pss N (N + 2) args (some st1) = some st2) (hA : ACalls P G f (a4q N args.length st2) res) (hn : a0r res = true)
  (hN : ∀ t ∈ d.toList ++ a0w st (args.map (·.2)), t < N) (hW : ∀ t ∈ W, t < N) (hf : fr N W st (a9r (if a0x res then st1 else st2) N d res)) :
  Loc P G N V (b30 P G N d (.call f args tys)) st (a9r (if a0x res then st1 else st2) N d res) (d.toList ++ a0w st (args.map (·.2))) W := by
 have hx := d33 (DL := d.toList ++ a0w st (args.map (·.2))) (st := st) (xs := args.map (·.2)) (fun t ht => by simp [ht]) hN
 have hx' : ∀ p ∈ args, XO (· ∈ d.toList ++ a0w st (args.map (·.2))) N st p.2 := fun p hp => hx _ (List.mem_map.2 ⟨p, hp, rfl⟩)
 have hd : DD (· ∈ d.toList ++ a0w st (args.map (·.2))) N d := fun t ht => by
  subst ht
  exact ⟨by simp, hN t (by simp)⟩
 rw [<- a6s] at h1
 cases hr1 : (a4z N (N + 2) args).run st with
 | none => rw [hr1] at h1; cases h1
 | some r1 =>
  obtain ⟨u1, st1'⟩ := r1
  rw [hr1] at h1
  simp only [Option.map, Option.some.injEq] at h1
  subst h1
  rw [<- a3q] at h2
  cases hr2 : (a3e N (N + 2) args).run st1' with
  | none => rw [hr2] at h2; cases h2
  | some r2 =>
   obtain ⟨u2, st2'⟩ := r2
   rw [hr2] at h2
   simp only [Option.map, Option.some.injEq] at h2
   subst h2
   obtain ⟨rd, wr, sw1, a1, a2, a3, hb, _, a4⟩ := c1w (N := N) (D := (· ∈ d.toList ++ a0w st (args.map (·.2)))) args (N + 2) (st := st) (sw := []) (P := fun _ st' sw' => BLe N st st' /\ (∀ t ∈ [], t ∈ sw') /\ (∀ i x, args[i]? = some (true, x) -> N + 2 + i ∈ sw')) (by omega) hx' (fun st' sw' b1 b2 b3 => ⟨b1, b2, b3⟩) u1 st1' hr1
   obtain ⟨rd2, wr2, sw2, c1, c2, c3, c4, c5⟩ := b7t (N := N) (D := (· ∈ d.toList ++ a0w st (args.map (·.2)))) args (N + 2) (st := st1') (sw := sw1) (P := fun _ st' sw' => (∀ t ∈ sw1, t ∈ sw') /\ (∀ i x, args[i]? = some (false, x) -> N + 2 + i ∈ sw')) (by omega) (fun p hp => (hx' p hp).le hb) (fun st' sw' b1 b2 => ⟨b1, b2⟩) u2 st2' hr2
   have hfin : ∃ rd3 wr3 sw3, (b9b N d res).runF N ((if a0x res then st1' else st2').clear N) [] = some ⟨(), a9r (if a0x res then st1' else st2') N d res, rd3, wr3, sw3⟩ /\ (∀ t ∈ rd3, t ∈ d.toList ++ a0w st (args.map (·.2))) /\ (∀ t ∈ wr3, t ∈ d.toList ++ a0w st (args.map (·.2))) := by
    cases d with
    | none => exact ⟨[], [], [], rfl, by simp, by simp⟩
    | some d =>
     obtain ⟨rd3, wr3, sw3, e1, e2, e3, _⟩ := FpP.thru (D := (· ∈ (some d).toList ++ a0w st (args.map (·.2)))) (N := N) (st := (if a0x res then st1' else st2').clear N) (sw := []) (d := some d) (v := res) (M := N) (P := tt) (Nat.le_refl _) hd (fun _ _ => trivial) () _ (by rw [a6t])
     exact ⟨rd3, wr3, sw3, e1, e2, e3⟩
   obtain ⟨rd3, wr3, sw3, e1, e2, e3⟩ := hfin
   obtain ⟨st3, rd4, wr4, ⟨rfl, hrd, hwr⟩, hL⟩ := b5j (V := V) (P := P) (G := G) (N := N) (d := d) (act := .call f args tys) (st := st) (K := fun s2 r2 w2 => s2 = a9r (if a0x res then st1' else st2') N d res /\ (∀ t ∈ r2, t ∈ d.toList ++ a0w st (args.map (·.2))) /\ (∀ t ∈ w2, t ∈ d.toList ++ a0w st (args.map (·.2)))) (by
    refine ⟨_, _, _, res, a1, c1, hA, hn, e1, fun i hi => ?_, rfl, fun t ht => ?_, fun t ht => ?_⟩
    ·cases ha : args[i]? with
     | none => simp at ha; omega
     | some p =>
      obtain ⟨b, x⟩ := p
      cases b with
      | true => exact c4 _ (a4 i x ha)
      | false => exact c5 i x ha
    ·simp only [List.mem_append] at ht
     rcases ht with ((ht | ht) | ht) | ht
     ·exact a2 t ht
     ·exact c2 t ht
     ·exact c3 t ht
     ·exact e2 t ht
    ·split at ht <;> simp only [List.mem_append] at ht
     ·rcases ht with ht | ht
      ·exact a3 t ht
      ·exact e3 t ht
     ·rcases ht with (ht | ht) | ht
      ·exact a3 t ht
      ·exact c3 t ht
      ·exact e3 t ht)
   exact hL.widen hrd hwr hN hW hf
end
def b7r (st : St) (N : Nat) (T : List (Nat × AV)) (d : Option Nat) (res : AV) : St := match d with
 | some d => (st.lentS N T).thru N d res
 | none => st.lentS N T
theorem b2t {α : Type} {T : List (Nat × α)} {t : Nat} {v : α} (h : T.lookup t = some v) : (t, v) ∈ T := by
 induction T with
 | nil => simp at h
 | cons p T ih =>
  obtain ⟨u, x⟩ := p
  by_cases h2 : t = u
  ·subst h2
   simp at h
   simp [h]
  ·have : (t == u) = false := by simpa using h2
   simp only [List.lookup_cons, this] at h
   exact List.mem_cons_of_mem _ (ih h)
def c85 : AV -> Bool
 | .lit _ => true
 | _ => false
def a4y (rd : List Nat) : X -> Bool
 | .t n => rd.contains n
 | _ => true
def c0m (st : St) (rd : List Nat) (args : List (Bool × X)) : Bool := args.all fun p => !p.1 && (c85 (rdv st p.2) && a4y rd p.2)
def a1i (st : St) (j : Nat) : List (Bool × X) -> St
 | [] => st
 | p :: ps => a1i (st.put j (rdv st p.2)) (j + 1) ps
mutual
def a20 (rd : List Nat) : AV -> Bool
 | .ref t _ _ _ => rd.contains t
 | .bor t _ _ _ _ => rd.contains t
 | .fn _ fs cs => a2r rd fs && a2r rd cs
 | _ => true
def a2r (rd : List Nat) : List AV -> Bool
 | [] => true
 | k :: ks => a20 rd k && a2r rd ks
end
def c0l (st : St) (rd : List Nat) (n : Nat) (lay : List CS) : Bool := lay.all fun
 | .p k => decide (k < n)
 | .x y => a4y rd y && a20 rd (xv st y)
theorem c5k {v : AV} (h : c85 v = true) : ∃ u, v = .lit u := by cases v <;> simp [c85] at h; exact ⟨_, rfl⟩
theorem c04 {st : St} {j N : Nat} {v : AV} {x : X} (hx : ∀ n, x = .t n -> n < N) (hj : N <= j) : rdv (st.put j v) x = rdv st x := by
 cases x with
 | t n => have := hx n rfl; simp [rdv, show n ≠ j by omega]
 | _ => rfl
theorem a96 {N : Nat} : ∀ (args : List (Bool × X)) (j : Nat) (st : St), (args.all fun p => !p.1) = true -> (a4z N j args).run st = some ((), st)
 | [], j, st, _ => rfl
 | (g, x) :: xs, j, st, h => by
  simp only [List.all_cons, Bool.and_eq_true, Bool.not_eq_true'] at h
  obtain ⟨rfl, h2⟩ := h
  simp only [a4z, Bool.false_eq_true, if_false, Ev.run_bind, Ev.run_pure, Option.bind]
  exact a96 xs (j + 1) st h2
theorem a8x {N : Nat} : ∀ (args : List (Bool × X)) (j : Nat) (st : St), N <= j -> (∀ p ∈ args, p.1 = false /\ c85 (rdv st p.2) = true /\ ∀ n, p.2 = .t n -> n < N) -> (a3e N j args).run st = some ((), a1i st j args)
 | [], j, st, _, _ => rfl
 | (g, x) :: xs, j, st, hj, h => by
  obtain ⟨h1, h2, h3⟩ := h _ (List.mem_cons_self ..)
  simp only at h1 h2 h3
  subst h1
  obtain ⟨u, hu⟩ := c5k h2
  have hp : (b6b N x j).run st = some ((), st.put j (rdv st x)) := by
   unfold b6b
   simp only [Ev.run_bind, a0u, hu, Option.bind, a0r, a0f, if_true]
   cases x <;> simp [a28, a0l, frz, a5y]
  simp only [a3e, Bool.false_eq_true, if_false, Ev.run_bind, hp, Option.bind, a1i]
  refine a8x xs (j + 1) _ (by omega) fun p hp2 => ?_
  obtain ⟨k1, k2, k3⟩ := h p (List.mem_cons_of_mem _ hp2)
  exact ⟨k1, by rw [c04 k3 hj]; exact k2, k3⟩
theorem a9z {N : Nat} : ∀ (args : List (Bool × X)) (j : Nat) (st : St), (∀ t, t < j -> (a1i st j args).s t = st.s t)
 | [], j, st, t, _ => rfl
 | p :: ps, j, st, t, ht => by
  rw [a1i, a9z (N := N) ps (j + 1) _ t (by omega)]
  simp [show t ≠ j by omega]
theorem b28 : ∀ (args : List (Bool × X)) (j : Nat) (st : St) (N : Nat), N <= j -> (∀ p ∈ args, c85 (rdv st p.2) = true /\ ∀ n, p.2 = .t n -> n < N) -> ∀ t, (a1i st j args).ep t = st.ep t
 | [], j, st, N, _, _, t => rfl
 | p :: ps, j, st, N, hj, h, t => by
  obtain ⟨h1, h2⟩ := h _ (List.mem_cons_self ..)
  obtain ⟨u, hu⟩ := c5k h1
  rw [a1i, b28 ps (j + 1) _ N (by omega) (fun q hq => by
   obtain ⟨k1, k2⟩ := h q (List.mem_cons_of_mem _ hq)
   exact ⟨by rw [c04 k2 hj]; exact k1, k2⟩) t]
  simp [hu, St.put_ep, a0p]
theorem a8f {N : Nat} : ∀ (args : List (Bool × X)) (j : Nat) (st : St), N <= j -> (∀ p ∈ args, ∀ n, p.2 = .t n -> n < N) -> ∀ i p, args[i]? = some p -> (a1i st j args).s (j + i) = rdv st p.2
 | [], j, st, _, _, i, p, h => by simp at h
 | q :: ps, j, st, hj, hx, i, p, h => by
  rw [a1i]
  cases i with
  | zero =>
   simp only [List.getElem?_cons_zero, Option.some.injEq] at h
   subst h
   rw [a9z (N := N) ps (j + 1) _ (j + 0) (by omega)]
   simp
  | succ i =>
   have := a8f ps (j + 1) (st.put j (rdv st q.2)) (by omega) (fun p hp => hx p (List.mem_cons_of_mem _ hp)) i p (by simpa using h)
   rw [show j + (i + 1) = j + 1 + i by omega, this]
   exact c04 (hx p (List.mem_cons_of_mem _ (List.mem_of_getElem? (by simpa using h)))) hj
mutual
theorem b83 {stA stB : St} {rd : List Nat} {L : List (Nat × Nat)} (h : ∀ t, t ∈ rd -> stB.ep t = stA.ep t) : ∀ av, a20 rd av = true -> trA stB L av = trA stA L av
 | .ref t q o e, hr => by
  simp only [a20, List.contains_iff_mem] at hr
  simp only [trA, h t hr]
 | .fn f fs cs, hr => by
  simp only [a20, Bool.and_eq_true] at hr
  simp only [trA, b3r h fs hr.1, b3r h cs hr.2]
 | .bor _ _ _ _ _, _ => by simp only [trA]
 | .dead, _ | .lit _, _ | .sl _ _, _ | .ip _ _, _ | .own _ _ _, _ | .var _, _ | .agg _, _ | .tup _, _ | .ifc _ _, _ | .mp _ _, _ | .loan _, _ => by simp only [trA]
theorem b3r {stA stB : St} {rd : List Nat} {L : List (Nat × Nat)} (h : ∀ t, t ∈ rd -> stB.ep t = stA.ep t) : ∀ ks, a2r rd ks = true -> trL stB L ks = trL stA L ks
 | [], _ => by simp only [trL]
 | k :: ks, hr => by
  simp only [a2r, Bool.and_eq_true] at hr
  simp only [trL, b83 h k hr.1, b3r h ks hr.2]
end
theorem b59 {N : Nat} {s1 s2 t1 t2 : St} {rd : List Nat} (h : ∀ t, t ∈ rd -> t1.s t = s1.s t /\ t2.s t = s2.s t /\ t2.ep t = s2.ep t) : ∀ (es : List (Option Nat × AV)) (acc : List AV) (L : List (Nat × Nat)), (∀ p ∈ es, a20 rd p.2 = true) -> pX N t1 t2 acc L es = pX N s1 s2 acc L es
 | [], acc, L, _ => by simp only [pX]
 | (some k, av) :: es, acc, L, hr => by
  have ih : ∀ a l, pX N t1 t2 a l es = pX N s1 s2 a l es := fun a l => b59 h es a l fun p hp => hr p (List.mem_cons_of_mem _ hp)
  simp only [pX, ih]
 | (none, av) :: es, acc, L, hr => by
  have ih : ∀ a l, pX N t1 t2 a l es = pX N s1 s2 a l es := fun a l => b59 h es a l fun p hp => hr p (List.mem_cons_of_mem _ hp)
  have h0 := hr _ (List.mem_cons_self ..)
  simp only at h0
  have gen : ∀ av, a20 rd av = true -> trA t2 L av = trA s2 L av := fun av ha => b83 (fun t ht => (h t ht).2.2) av ha
  cases av with
  | ref t q o e =>
   have ht : t ∈ rd := by simpa [a20] using h0
   obtain ⟨a1, a2, a3⟩ := h t ht
   cases q with
   | nil =>
    cases o with
    | zero => simp only [pX, ih, a1, a2, a3]
    | succ o => simp only [pX, gen _ h0, ih]
   | cons i q => simp only [pX, gen _ h0, ih]
  | _ => simp only [pX, gen _ h0, ih]
theorem c5n {V : List (Nat × Nat)} {P : Program} {G : GG} {N : Nat} {st : St} {d : Option Nat} {cv : X} {args : List (Bool × X)} {lay : List CS} {tys : List TypeId} {f : FuncId} {fs cs pre : List AV} {L : List (Nat × Nat)} {res : AV} {posts : List (Nat × AV)} {rd : List Nat}
  (ha : c0m st rd args = true) (hcv : a4y rd cv = true) (hfn : xv st cv = .fn f fs cs) (hfB : fnB P f = true) (hri : (a2r rd fs && a2r rd cs) = true) (hlay : c0l st rd args.length lay = true)
  (hpx : pX N st (a1i st (N + 2) args) [] [] (b5q N (a1i st (N + 2) args) fs lay cs) = some (pre, L)) (hA : ACallsX P G f pre res posts) (hnr : a0r res = true) (hpo : posts.map (·.1) = L.map (·.2)) (hvar : ∀ i av, (i, av) ∈ posts -> ∃ ks, av = .var ks /\ a0n ks = true)
  (hrd : ∀ t ∈ rd, t < N) (hd : ∀ t ∈ d.toList, t < N) (hL : ∀ t ∈ L.map (·.1), t < N /\ t ∈ rd) :
  Loc P G N V (b30 P G N d (.callx cv args lay tys)) st (b7r st N ((L.map (·.1)).zip (posts.map (·.2))) d res) (d.toList ++ rd) (d.toList ++ L.map (·.1)) := by
 have hT : ∀ t q, a8n ((L.map (·.1)).zip (posts.map (·.2))) t q = false := by
  intro t q
  unfold a8n
  split
  ·rename_i i q' ks hl
   have hm := (List.of_mem_zip (b2t hl)).2
   obtain ⟨p, hp, hpe⟩ := List.mem_map.1 hm
   obtain ⟨ks', he, hno⟩ := hvar p.1 p.2 hp
   rw [hpe] at he
   injection he with he
   subst he
   simp [hno]
  ·rfl
 have run : ∀ s : St, (∀ t, t ∈ d.toList ++ rd \/ t ∈ d.toList ++ L.map (·.1) -> agr st s t) -> ∀ K : St -> Prop, K (b7r s N ((L.map (·.1)).zip (posts.map (·.2))) d res) -> b30 P G N d (.callx cv args lay tys) K s := by
  intro s hag K hK
  have hrs : ∀ t, t ∈ rd -> agr st s t := fun t ht => hag t (.inl (List.mem_append.2 (.inr ht)))
  have hx : ∀ x, a4y rd x = true -> rdv s x = rdv st x /\ xv s x = xv st x /\ ∀ n, x = .t n -> n < N := fun x hx => by
   cases x with
   | t n =>
    have hn : n ∈ rd := by simpa [a4y] using hx
    refine ⟨(hrs n hn).1, (hrs n hn).1, fun m hm => ?_⟩
    injection hm with hm
    subst hm
    exact hrd _ hn
   | _ => exact ⟨rfl, rfl, fun _ h => by cases h⟩
  have hargs : ∀ p ∈ args, p.1 = false /\ c85 (rdv s p.2) = true /\ (∀ n, p.2 = .t n -> n < N) /\ rdv s p.2 = rdv st p.2 := fun p hp => by
   have := List.all_eq_true.1 ha p hp
   simp only [Bool.and_eq_true, Bool.not_eq_true'] at this
   obtain ⟨k1, k2, k3⟩ := this
   obtain ⟨e1, _, e3⟩ := hx _ k3
   exact ⟨k1, by rw [e1]; exact k2, e3, e1⟩
  have hargs0 : ∀ p ∈ args, c85 (rdv st p.2) = true /\ ∀ n, p.2 = .t n -> n < N := fun p hp => by
   obtain ⟨_, k2, k3, k4⟩ := hargs p hp
   exact ⟨by rw [<- k4]; exact k2, k3⟩
  have hg := a96 (N := N) args (N + 2) s (List.all_eq_true.2 fun p hp => by simp [(hargs p hp).1])
  have hp := a8x (N := N) args (N + 2) s (by omega) fun p hp => ⟨(hargs p hp).1, (hargs p hp).2.1, (hargs p hp).2.2.1⟩
  have hep := b28 args (N + 2) s N (by omega) fun p hp => ⟨(hargs p hp).2.1, (hargs p hp).2.2.1⟩
  have hep0 := b28 args (N + 2) st N (by omega) hargs0
  have hps := a9z (N := N) args (N + 2) s
  have hps0 := a9z (N := N) args (N + 2) st
  have hxv : ∀ (s : St) (y : X), (∀ n, y = .t n -> n < N) -> xv (a1i s (N + 2) args) y = xv s y := fun s y hy => by
   cases y with
   | t n => exact a9z (N := N) args (N + 2) s n (by have := hy n rfl; omega)
   | _ => rfl
  have hcv2 : xv (a1i s (N + 2) args) cv = .fn f fs cs := by rw [hxv s cv (hx cv hcv).2.2, (hx cv hcv).2.1]; exact hfn
  have hlay2 : lay.map (c3y N (a1i s (N + 2) args)) = lay.map (c3y N (a1i st (N + 2) args)) := by
   apply List.map_congr_left
   intro c hc
   have := List.all_eq_true.1 hlay c hc
   cases c with
   | p k =>
    have hk : k < args.length := by simpa using this
    have h1 := a8f (N := N) args (N + 2) s (by omega) (fun p hp => (hargs p hp).2.2.1) k args[k] (by simp [hk])
    have h2 := a8f (N := N) args (N + 2) st (by omega) (fun p hp => (hargs p hp).2.2.1) k args[k] (by simp [hk])
    simp only [c3y, h1, h2, (hargs _ (List.getElem_mem hk)).2.2.2]
   | x y =>
    simp only [Bool.and_eq_true] at this
    have hy := hx y this.1
    simp only [c3y, hxv s y hy.2.2, hxv st y hy.2.2, hy.2.1]
  have heff : b5q N (a1i s (N + 2) args) fs lay cs = b5q N (a1i st (N + 2) args) fs lay cs := by simp only [b5q, hlay2]
  simp only [Bool.and_eq_true] at hri
  have hrefL : ∀ ks : List AV, a2r rd ks = true -> ∀ k ∈ ks, a20 rd k = true := by
   intro ks
   induction ks with
   | nil => intro _ k hk; simp at hk
   | cons k ks ih =>
    intro h k' hk'
    simp only [a2r, Bool.and_eq_true] at h
    rcases List.mem_cons.1 hk' with rfl | hk'
    ·exact h.1
    ·exact ih h.2 k' hk'
  have hrefs : ∀ p ∈ b5q N (a1i st (N + 2) args) fs lay cs, a20 rd p.2 = true := by
   intro p hp
   simp only [b5q, List.mem_append, List.mem_map] at hp
   rcases hp with ⟨k, hk, rfl⟩ | ⟨c, hc, rfl⟩ | ⟨k, hk, rfl⟩
   ·exact hrefL fs hri.1 k hk
   ·have := List.all_eq_true.1 hlay c hc
    cases c with
    | p k =>
     have hk : k < args.length := by simpa using this
     have h2 := a8f (N := N) args (N + 2) st (by omega) (fun p hp => (hargs p hp).2.2.1) k args[k] (by simp [hk])
     obtain ⟨u, hu⟩ := c5k (hargs0 _ (List.getElem_mem hk)).1
     simp only [c3y, h2, hu, a20]
    | x y =>
     simp only [Bool.and_eq_true] at this
     simp only [c3y, hxv st y (hx y this.1).2.2]
     exact this.2
   ·exact hrefL cs hri.2 k hk
  have hpx2 : pX N s (a1i s (N + 2) args) [] [] (b5q N (a1i s (N + 2) args) fs lay cs) = some (pre, L) := by
   rw [heff, <- hpx]
   exact b59 (rd := rd) (fun t ht => ⟨(hrs t ht).1, by rw [hps t (by have := hrd t ht; omega), hps0 t (by have := hrd t ht; omega)]; exact (hrs t ht).1, by rw [hep, hep0]; exact (hrs t ht).2⟩) _ _ _ hrefs
  have heq : ∀ c : Bool, (if c = true then s else a1i s (N + 2) args).lentS N ((L.map (·.1)).zip (posts.map (·.2))) = s.lentS N ((L.map (·.1)).zip (posts.map (·.2))) := by
   intro c
   cases c
   ·refine St.ext' (fun u => ?_) (fun u => hep u)
    simp only [St.lentS, Bool.false_eq_true, if_false]
    by_cases hu : u < N
    ·simp only [hu, if_true, hps u (by omega)]
    ·simp only [hu, if_false]
   ·rfl
  simp only [b30, c1h]
  refine ⟨f, fs, cs, s, a1i s (N + 2) args, L, pre, res, posts, _, hg, hp, hcv2, hfB, hpx2, hA, hnr, hpo, fun i av hm => (hvar i av hm).imp fun _ h => h.1, ?_, hK⟩
  rw [heq]
  cases d with
  | none => simp only [b9b, Ev.run_pure, b7r]
  | some d => simp only [b9b, a6t, b7r]
 have low : ∀ s : St, ∀ t, t < N -> t ∉ d.toList ++ L.map (·.1) -> agr s (b7r s N ((L.map (·.1)).zip (posts.map (·.2))) d res) t := by
  intro s t ht hn
  simp only [List.mem_append, not_or] at hn
  have hlk : ((L.map (·.1)).zip (posts.map (·.2))).lookup t = none := by
   cases hl : ((L.map (·.1)).zip (posts.map (·.2))).lookup t with
   | none => rfl
   | some av => exact absurd (List.of_mem_zip (b2t hl)).1 hn.2
  have hlent : agr s (s.lentS N ((L.map (·.1)).zip (posts.map (·.2)))) t := by
   refine ⟨?_, rfl⟩
   simp only [St.lentS, ht, if_true, hlk]
   have : a8n ((L.map (·.1)).zip (posts.map (·.2))) = fun _ _ => false := by funext a b; exact hT a b
   rw [this, a3l]
  cases d with
  | none => exact hlent
  | some d =>
   have htd : t ≠ d := by simpa using hn.1
   simp only [b7r]
   exact ((hlent.trans (agr.putn _ (by omega))).trans (agr.putn _ (by omega))).trans (agr.putn _ htd)
 refine ⟨fun t ht => ?_, fun t ht hn => low st t ht hn, fun s _ hag K hK => run s hag K (hK _ (fun t ht => ?_) fun t ht hn => low s t ht hn)⟩
 ·rcases ht with ht | ht <;> rcases List.mem_append.1 ht with ht | ht
  ·exact hd t ht
  ·exact hrd t ht
  ·exact hd t ht
  ·exact (hL t ht).1
 ·have hgt := hag t (.inr ht)
  have htN : t < N := by
   rcases List.mem_append.1 ht with ht | ht
   ·exact hd t ht
   ·exact (hL t ht).1
  have hlent : agr (st.lentS N ((L.map (·.1)).zip (posts.map (·.2)))) (s.lentS N ((L.map (·.1)).zip (posts.map (·.2)))) t := by
   refine ⟨?_, hgt.2⟩
   simp only [St.lentS, htN, if_true, hgt.1]
  cases d with
  | none => exact hlent
  | some d =>
   simp only [b7r]
   exact ((hlent.put _).put _).put _
def wrE (v : AV) (x : X) : List Nat := if a0l v = true then [] else slX x
def Wop (st : St) (d : Option Nat) : IOp -> List Nat
 | .asg x => d.toList ++ a8b st x
 | .mva x => d.toList ++ slX x
 | .mvf x => d.toList ++ slX x
 | .box _ _ x => d.toList ++ slX x
 | .build _ _ parts => d.toList ++ slL (parts.map fun p => p.2.2.2)
 | .bslice _ _ _ _ _ parts => d.toList ++ slL (parts.map fun p => p.2)
 | .store _ _ x y => a8b st x ++ slX y
 | .app _ _ _ _ x y => d.toList ++ a0w st [x, y]
 | .mki _ x => d.toList ++ slX x
 | .ext x _ => d.toList ++ wrE (rdv st x) x
 | .mset _ _ x _ _ => a8b st x
 | _ => d.toList
def c68 (b : Bool) (p q : Prop) : Prop := if b then p else q
abbrev DA := List (List Nat) × List (Nat × Nat)
def a6q (V : List (Nat × Nat)) (st : St) (xs : List X) : IOp -> List Nat
 | .mv (.t t) => if V.any (fun p => p.1 == t) then [] else a0w st xs
 | _ => a0w st xs
def e93 (N : Nat) (aft : DA) (fps : List (List Nat × List Nat)) (K : St -> Prop) (st : St) : Prop := b4n aft.1 fps = true /\ ∀ st', (∀ t, t < N -> agr st st' t) -> K st'
section
variable (P : Program) (G : GG) (N : Nat) (aft : DA)
def c4p (ex : List Nat) (d : Option Nat) (act : IAct) (fps : List (List Nat × List Nat)) (Kn : List (List Nat × List Nat) -> St -> Prop) (st : St) : Prop := match act with
 | .op i => match b0v i, evS G N d i st with
  | some xs, some st' => c68 (d7b N st i) ((∀ t ∈ ex ++ (d.toList ++ a0w st xs), t < N) /\ (∀ t ∈ Wop st d i, t < N) /\ fr N (Wop st d i) st st' /\ Kn (fps ++ [(ex ++ (d.toList ++ a6q aft.2 st xs i), Wop st d i)]) st')
   ((∀ t ∈ ex ++ (d.toList ++ a0w st xs), t < N) /\ Kn (fps ++ [(ex ++ List.range N, List.range N)]) st')
  | _, _ => False
 | .call f args _ => match gvs N (N + 2) args (some st) with
  | some st1 => match pss N (N + 2) args (some st1) with
   | some st2 => ∃ res W, ACalls P G f (a4q N args.length st2) res /\ a0r res = true /\ (∀ t ∈ ex ++ (d.toList ++ a0w st (args.map (·.2))), t < N) /\ (∀ t ∈ W, t < N) /\ fr N W st (a9r (if a0x res then st1 else st2) N d res) /\
    Kn (fps ++ [(ex ++ (d.toList ++ a0w st (args.map (·.2))), W)]) (a9r (if a0x res then st1 else st2) N d res)
   | none => False
  | none => False
 | .callx cv args lay _ => ∃ f fs cs pre L res posts rd, c0m st rd args = true /\ a4y rd cv = true /\ xv st cv = .fn f fs cs /\ fnB P f = true /\ (a2r rd fs && a2r rd cs) = true /\ c0l st rd args.length lay = true /\
   pX N st (a1i st (N + 2) args) [] [] (b5q N (a1i st (N + 2) args) fs lay cs) = some (pre, L) /\ ACallsX P G f pre res posts /\ a0r res = true /\ posts.map (·.1) = L.map (·.2) /\ (∀ i av, (i, av) ∈ posts -> ∃ ks, av = .var ks /\ a0n ks = true) /\
   (∀ t ∈ ex ++ rd, t < N) /\ (∀ t ∈ d.toList, t < N) /\ (∀ t ∈ L.map (·.1), t < N /\ t ∈ rd) /\ Kn (fps ++ [(ex ++ (d.toList ++ rd), d.toList ++ L.map (·.1))]) (b7r st N ((L.map (·.1)).zip (posts.map (·.2))) d res)
 | .nilq _ _ _ => False
 | .bad _ => False
def a6w : List AO -> List (List Nat × List Nat) -> (St -> Prop) -> St -> Prop
 | [], fps, K, st => e93 N aft fps K st
 | io :: rest, fps, K, st => match io.g with
  | none => c4p P G N aft [] io.dst io.act fps (fun fps st => a6v aft.2 st /\ a6w rest fps K st) st
  | some (_, t, want) => match st.s t with
   | .lit v => if b4a want v then c4p P G N aft [t] io.dst io.act fps (fun fps st => a6v aft.2 st /\ a6w rest fps K st) st else (∀ u ∈ t :: io.dst.toList, u < N) /\ a6v aft.2 (a2s io.dst st) /\ a6w rest (fps ++ [([t], io.dst.toList)]) K (a2s io.dst st)
   | _ => False
end
section
variable {P : Program} {G : GG} {N : Nat} {aft : DA}
theorem c1n {ex : List Nat} {d : Option Nat} {act : IAct} {fps : List (List Nat × List Nat)} {Kn : List (List Nat × List Nat) -> St -> Prop} {st : St} (hI : a6v aft.2 st) (h : c4p P G N aft ex d act fps Kn st) : ∃ st' rd wr, Loc P G N aft.2 (b30 P G N d act) st st' rd wr /\ (∀ t ∈ ex, t < N) /\ Kn (fps ++ [(ex ++ rd, wr)]) st' := by
 cases act with
 | op i =>
  simp only [c4p] at h
  split at h
  ·rename_i xs st' ho he
   unfold c68 at h
   split at h
   ·rename_i hb
    obtain ⟨h1, h2, h4, h5⟩ := h
    have gen : a6q aft.2 st xs i = a0w st xs -> ∃ st' rd wr, Loc P G N aft.2 (b30 P G N d (.op i)) st st' rd wr /\ (∀ t ∈ ex, t < N) /\ Kn (fps ++ [(ex ++ rd, wr)]) st' := fun e => ⟨st', _, _, e05 (V := aft.2) ho he (fun t ht => h1 t (List.mem_append.2 (.inr ht))) h2 (d3z hb) h4, fun t ht => h1 t (List.mem_append.2 (.inl ht)), by rw [e] at h5; exact h5⟩
    by_cases hm : ∃ t, i = .mv (.t t) /\ (aft.2.any fun p => p.1 == t) = true
    ·obtain ⟨t, rfl, ht⟩ := hm
     have e : a6q aft.2 st xs (.mv (.t t)) = [] := by simp only [a6q, ht, if_true]
     rw [e, List.append_nil] at h5
     obtain ⟨p, hp, hpt⟩ := List.any_eq_true.1 ht
     have hpt : p.1 = t := by simpa using hpt
     subst hpt
     cases d with
     | none =>
      exfalso
      have := (hI p hp).1
      cases hv : st.s p.1 <;> simp only [hv, b7v, reduceCtorEq] at this
      simp [evS, a07, mvE, Ev.run_bind, a0u, rdv, hv, b16, Ev.run, setD, Option.bind] at he
     | some d =>
      obtain ⟨q1, q2⟩ := d2q (P := P) (G := G) (N := N) hI hp (h2 d (by simp [Wop])) he
      exact ⟨st', _, _, q1, fun t ht => h1 t (List.mem_append.2 (.inl ht)), h5⟩
    ·refine gen ?_
     unfold a6q
     split
     ·rename_i t
      rw [if_neg]
      intro hc
      exact hm ⟨t, rfl, hc⟩
     ·rfl
   ·obtain ⟨h1, h5⟩ := h
    exact ⟨st', _, _, c87 ho he (fun t ht => h1 t (List.mem_append.2 (.inr ht))), fun t ht => h1 t (List.mem_append.2 (.inl ht)), h5⟩
  ·exact h.elim
 | call f args tys =>
  simp only [c4p] at h
  split at h
  ·rename_i st1 hg
   split at h
   ·rename_i st2 hp
    obtain ⟨res, W, h1, h2, h3, h4, h5, h6⟩ := h
    exact ⟨_, _, _, c86 hg hp h1 h2 (fun t ht => h3 t (List.mem_append.2 (.inr ht))) h4 h5, fun t ht => h3 t (List.mem_append.2 (.inl ht)), h6⟩
   ·exact h.elim
  ·exact h.elim
 | callx cv args lay tys =>
  simp only [c4p] at h
  obtain ⟨f, fs, cs, pre, L, res, posts, rd, h1, h2, h3, h4, h5, h6, h7, h8, h9, h10, h11, h12, h13, h14, h15⟩ := h
  exact ⟨_, _, _, c5n h1 h2 h3 h4 h5 h6 h7 h8 h9 h10 h11 (fun t ht => h12 t (List.mem_append.2 (.inr ht))) h13 h14, fun t ht => h12 t (List.mem_append.2 (.inl ht)), h15⟩
 | nilq T x yT => exact h.elim
 | bad o => exact h.elim
theorem a8a : ∀ (ios : List AO) (fps : List (List Nat × List Nat)) (K : St -> Prop) (st : St), a6v aft.2 st -> a6w P G N aft ios fps K st -> dCh P G N aft.2 ios fps (fun stn fps => b4n aft.1 fps = true /\ ∀ st', (∀ t, t < N -> agr stn st' t) -> K st') st
 | [], fps, K, st, hI, h => h
 | io :: rest, fps, K, st, hI, h => by
  simp only [a6w] at h
  simp only [dCh]
  cases hg : io.g with
  | none =>
   simp only [hg] at h
   obtain ⟨st', rd, wr, hL, _, hI', hK⟩ := c1n hI h
   refine ⟨st', rd, wr, ?_, hI', by simpa using a8a rest _ K st' hI' hK⟩
   have : a82 P G N io = b30 P G N io.dst io.act := by funext K st; simp only [a82, hg]
   rw [this]; exact hL
  | some g =>
   obtain ⟨j, t, want⟩ := g
   simp only [hg] at h
   split at h
   ·rename_i v hv
    split at h
    ·rename_i hw
     obtain ⟨st', rd, wr, hL, hex, hI', hK⟩ := c1n hI h
     refine ⟨st', t :: rd, wr, ?_, hI', by simpa using a8a rest _ K st' hI' hK⟩
     exact {
      lt := fun u hu => by
       rcases hu with hu | hu
       ·rcases List.mem_cons.1 hu with rfl | hu
        ·exact hex _ (by simp)
        ·exact hL.lt u (.inl hu)
       ·exact hL.lt u (.inr hu)
      frame := hL.frame
      loc := fun st2 hV2 hst K2 hK2 => by
       have h1 : st2.s t = .lit v := by rw [(hst t (.inl (by simp))).1, hv]
       simp only [a82, hg, h1, hw, if_true]
       exact hL.loc st2 hV2 (fun u hu => hst u (hu.imp (List.mem_cons_of_mem _) id)) K2 hK2 }
    ·rename_i hw
     obtain ⟨hN, hI', hK⟩ := h
     refine ⟨_, _, _, ?_, hI', a8a rest _ K _ hI' hK⟩
     exact {
      lt := fun u hu => hN u (by rcases hu with hu | hu <;> simp at hu ⊢ <;> simp [hu])
      frame := fun u hu hn => by
       cases hd : io.dst with
       | none => simp only [a2s]; exact agr.refl _ _
       | some d =>
        simp only [a2s]
        refine agr.putn _ ?_
        rintro rfl
        exact hn (by simp [hd])
      loc := fun st2 hV2 hst K2 hK2 => by
       have h1 : st2.s t = .lit v := by rw [(hst t (.inl (by simp))).1, hv]
       simp only [a82, hg, h1, hw, Bool.false_eq_true, if_false]
       cases hd : io.dst with
       | none =>
        rw [hd] at hK2
        simp only [a2s] at hK2 ⊢
        exact hK2 _ (fun u hu => by simp at hu) (fun u _ _ => agr.refl _ _)
       | some d =>
        rw [hd] at hK2 hst
        simp only [a2s] at hK2 ⊢
        refine hK2 _ (fun u hu => ?_) (fun u _ hn => agr.putn _ (by rintro rfl; exact hn (by simp)))
        have : u = d := by simpa using hu
        subst this
        exact (hst u (.inr (by simp))).put _ }
   ·exact h.elim
end
end Go.Ideal
end
