/- Part Qae of the proof: a machine with trees for values, its soundness, and walks on it. -/
import Derived.Test.YtfncabcldhemkaaGreatDoorQad
set_option linter.unusedVariables false
set_option linter.unusedSimpArgs false
section
namespace Go.Ideal
section
variable {P : Program} {G : GG} {N : Nat} {st : St} {K : St -> Prop}
def gvB (st : St) (N t : Nat) (q : List Nat) (lo n j : Nat) (k : Option AV) : Option St := match k with
 | some (.own sz n0 ks) => gO (lo = 0 /\ t < N /\ n <= n0) (some ((st.set t (a0y (st.s t) q .dead)).put j (.own sz n (ks.take (n * sz)))))
 | _ => none
@[congr] theorem e6t {t : Nat} {q : List Nat} {lo n j : Nat} {k k' : Option AV} (h : k = k') : gvB st N t q lo n j k = gvB st N t q lo n j k' := by rw [h]
@[go_sem] theorem f8m {t : Nat} {q : List Nat} {lo n j sz n0 : Nat} {ks : List AV} : gvB st N t q lo n j (some (.own sz n0 ks)) = gO (lo = 0 /\ t < N /\ n <= n0) (some ((st.set t (a0y (st.s t) q .dead)).put j (.own sz n (ks.take (n * sz))))) := (rfl)
def gvS (st : St) (N : Nat) (x : X) (j : Nat) (v : AV) : Option St := match v with
 | .dead => none
 | .bor t q lo n e => gvB st N t q lo n j (a3l st t q e)
 | v => if a0k v then ((a4p x j v).run st).map (·.2) else none
@[congr] theorem e6u {x : X} {j : Nat} {v v' : AV} (h : v = v') : gvS st N x j v = gvS st N x j v' := by rw [h]
theorem d2o (x : X) (j : Nat) : ((c5x N x j).run st).map (·.2) = gvS st N x j (rdv st x) := by
 simp only [c5x, Ev.run_bind, a06, Option.bind]
 cases hv : rdv st x
 case dead => rfl
 case bor t q lo n e =>
  simp only [gvS, Ev.run_bind, a2m, Option.bind, a0l]
  by_cases he : e = st.ep t
  ·subst he
   simp only [a3l, if_true, beq_self_eq_true, Bool.true_and]
   cases hk : a0h (st.s t) q with
   | none =>
    simp only [gvB]
    generalize (lo == 0 && decide (t < N)) = b
    cases b
    ·rfl
    ·simp only [if_true, a1k, hk]; rfl
   | some k =>
    by_cases h1 : lo = 0
    ·by_cases h2 : t < N
     ·simp only [h1, h2, beq_self_eq_true, decide_true, Bool.and_self, if_true, a1k, hk]
      cases k <;> try rfl
      rename_i sz n0 ks
      simp only [Option.map, gvB, gO, Ev.run_bind, a0l, Option.bind, h2, true_and]
      by_cases h3 : n <= n0
      ·simp only [h3, decide_true, if_true]; rfl
      ·simp only [h3, decide_false, Bool.false_eq_true, if_false]
     ·simp only [h2, decide_false, Bool.and_false, Bool.false_eq_true, if_false]
      cases k <;> try rfl
      simp only [gvB, gO, h2, false_and, and_false, if_false]; rfl
    ·have : (lo == 0) = false := by simpa using h1
     simp only [this, Bool.false_and, Bool.false_eq_true, if_false]
     cases k <;> try rfl
     simp only [gvB, gO, h1, false_and, if_false]; rfl
  ·have : (e == st.ep t) = false := by simpa using he
   simp only [this, Bool.false_and, Bool.false_eq_true, if_false, a3l, he]; rfl
 all_goals (simp only [gvS, Ev.run_bind, a0l, Option.bind]; generalize a0k _ = b; cases b <;> rfl)
section
variable {j : Nat}
def d83 (b : Bool) (r : Option St) : Option St := if b then r else none
@[congr] theorem e2o {b b' : Bool} {r : Option St} (h : b = b') : d83 b r = d83 b' r := by rw [h]
@[go_sem] theorem g5f {r : Option St} : d83 true r = r := (rfl)
@[go_sem] theorem f8o {x : X} {t : Nat} {q : List Nat} {lo n e : Nat} : gvS st N x j (.bor t q lo n e) = gvB st N t q lo n j (a3l st t q e) := (rfl)
@[go_sem] theorem f8q {x : X} {v : Value} : gvS st N x j (.lit v) = some (st.put j (.lit v)) := by cases x <;> rfl
@[go_sem] theorem g4l {x : X} {n : Nat} {ks : List AV} : gvS st N x j (.sl n ks) = some (st.put j (.sl n ks)) := by cases x <;> rfl
@[go_sem] theorem g4j {x : X} {n : Nat} {ks : List AV} : gvS st N x j (.ip ks n) = some (st.put j (.ip ks n)) := by cases x <;> rfl
@[go_sem] theorem g4i {x : X} {f : FuncId} {a b : List AV} : gvS st N x j (.fn f a b) = d83 (a0k (.fn f a b)) (some (st.put j (.fn f a b))) := by
 simp only [gvS, d83]; generalize a0k _ = r; cases r <;> cases x <;> rfl
@[go_sem] theorem f8r {t sz n : Nat} {ks : List AV} : gvS st N (.t t) j (.own sz n ks) = some ((st.put t .dead).put j (.own sz n ks)) := (rfl)
@[go_sem] theorem g4k {t sz n : Nat} {ks : List AV} : gvS st N (.nl t) j (.own sz n ks) = some (st.put j (.own sz n ks)) := (rfl)
@[go_sem] theorem f8t {t : Nat} {ks : List AV} : gvS st N (.t t) j (.var ks) = some ((st.put t .dead).put j (.var ks)) := (rfl)
@[go_sem] theorem f8n {t : Nat} {ks : List AV} : gvS st N (.t t) j (.agg ks) = iO (a0z ks) (some (st.put j (.agg ks))) (some ((st.put t .dead).put j (.agg ks))) := by
 by_cases h : a0z ks = true
 ·simp only [gvS, a0k, if_true, a4p, a0v, iO, h]; rfl
 ·simp only [gvS, a0k, if_true, a4p, a0v, iO, h]; rfl
@[go_sem] theorem f8s {t : Nat} {ks : List AV} : gvS st N (.t t) j (.tup ks) = iO (a0z ks) (some (st.put j (.tup ks))) (some ((st.put t .dead).put j (.tup ks))) := by
 by_cases h : a0z ks = true
 ·simp only [gvS, a0k, if_true, a4p, a0v, iO, h]; rfl
 ·simp only [gvS, a0k, if_true, a4p, a0v, iO, h]; rfl
@[go_sem] theorem f8p {t : Nat} {T : TypeId} {k : AV} : gvS st N (.t t) j (.ifc T k) = iO (a0v k) (some (st.put j (.ifc T k))) (some ((st.put t .dead).put j (.ifc T k))) := by
 by_cases h : a0v k = true
 ·simp only [gvS, a0k, if_true, a4p, a0v, iO, h]; rfl
 ·simp only [gvS, a0k, if_true, a4p, a0v, iO, h]; rfl
end
def psB (st : St) (N t : Nat) (q : List Nat) (lo n j : Nat) (k : Option AV) : Option St := match k with
 | some (.own sz n0 ks) => gO (t < N /\ lo + n <= n0) (some ((st.set t (a0y (st.s t) q (frz (.own sz n0 ks)))).put j (.sl n (((a2g ks).drop (lo * sz)).take (n * sz)))))
 | _ => none
@[congr] theorem e87 {t : Nat} {q : List Nat} {lo n j : Nat} {k k' : Option AV} (h : k = k') : psB st N t q lo n j k = psB st N t q lo n j k' := by rw [h]
@[go_sem] theorem g0w {t : Nat} {q : List Nat} {lo n j sz n0 : Nat} {ks : List AV} : psB st N t q lo n j (some (.own sz n0 ks)) = gO (t < N /\ lo + n <= n0) (some ((st.set t (a0y (st.s t) q (frz (.own sz n0 ks)))).put j (.sl n (((a2g ks).drop (lo * sz)).take (n * sz))))) := (rfl)
def psS (st : St) (N : Nat) (x : X) (j : Nat) (v : AV) : Option St := match v with
 | .dead => none
 | .bor t q lo n e => psB st N t q lo n j (a3l st t q e)
 | v => if a0k v then ((a4c x j v).run st).map (·.2) else none
@[congr] theorem e88 {x : X} {j : Nat} {v v' : AV} (h : v = v') : psS st N x j v = psS st N x j v' := by rw [h]
theorem d2q (x : X) (j : Nat) : ((c1w N x j).run st).map (·.2) = psS st N x j (rdv st x) := by
 simp only [c1w, Ev.run_bind, a06, Option.bind]
 cases hv : rdv st x
 case dead => rfl
 case bor t q lo n e =>
  simp only [psS, Ev.run_bind, a2m, Option.bind, a0l]
  by_cases he : e = st.ep t
  ·subst he
   simp only [a3l, if_true, beq_self_eq_true, Bool.true_and]
   cases hk : a0h (st.s t) q with
   | none =>
    simp only [psB]
    generalize (decide (t < N)) = b
    cases b
    ·rfl
    ·simp only [if_true, a1k, hk]; rfl
   | some k =>
    by_cases h2 : t < N
    ·simp only [h2, decide_true, if_true, a1k, hk]
     cases k <;> try rfl
     rename_i sz n0 ks
     simp only [Option.map, psB, gO, Ev.run_bind, a0l, Option.bind, h2, true_and]
     by_cases h3 : lo + n <= n0
     ·simp only [h3, decide_true, if_true]; rfl
     ·simp only [h3, decide_false, Bool.false_eq_true, if_false]
    ·simp only [h2, decide_false, Bool.false_eq_true, if_false]
     cases k <;> try rfl
     simp only [psB, gO, h2, false_and, if_false]; rfl
  ·have : (e == st.ep t) = false := by simpa using he
   simp only [this, Bool.false_and, Bool.false_eq_true, if_false, a3l, he]; rfl
 all_goals (simp only [psS, Ev.run_bind, a0l, Option.bind]; generalize a0k _ = b; cases b <;> rfl)
section
variable {j : Nat}
@[go_sem] theorem g0y {x : X} {t : Nat} {q : List Nat} {lo n e : Nat} : psS st N x j (.bor t q lo n e) = psB st N t q lo n j (a3l st t q e) := (rfl)
@[go_sem] theorem g00 {x : X} {v : Value} : psS st N x j (.lit v) = some (st.put j (.lit v)) := by cases x <;> rfl
@[go_sem] theorem g5p {x : X} {n : Nat} {ks : List AV} : psS st N x j (.sl n ks) = some (st.put j (.sl n ks)) := by cases x <;> rfl
@[go_sem] theorem g5n {x : X} {n : Nat} {ks : List AV} : psS st N x j (.ip ks n) = some (st.put j (.ip ks n)) := by cases x <;> rfl
@[go_sem] theorem g5m {x : X} {f : FuncId} {a b : List AV} : psS st N x j (.fn f a b) = d83 (a0k (.fn f a b)) (some (st.put j (.fn f a b))) := by
 simp only [psS, d83]; generalize a0k _ = r; cases r <;> cases x <;> rfl
@[go_sem] theorem g01 {t sz n : Nat} {ks : List AV} : psS st N (.t t) j (.own sz n ks) = some ((st.set t (.sl n (a2g ks))).put j (.sl n (a2g ks))) := (rfl)
@[go_sem] theorem g5o {t sz n : Nat} {ks : List AV} : psS st N (.nl t) j (.own sz n ks) = some (st.put j (.sl n (a2g ks))) := (rfl)
@[go_sem] theorem g03 {t : Nat} {ks : List AV} : psS st N (.t t) j (.var ks) = some ((st.set t (.ip (a2g ks) 0)).put j (.ip (a2g ks) 0)) := (rfl)
@[go_sem] theorem g0x {t : Nat} {ks : List AV} : psS st N (.t t) j (.agg ks) = iO (a0z ks) (some (st.put j (.agg ks))) (some ((st.set t (.agg (a2g ks))).put j (.agg (a2g ks)))) := by
 by_cases h : a0z ks = true
 ·simp only [psS, a0k, if_true, a4c, a0v, iO, h]; rfl
 ·simp only [psS, a0k, if_true, a4c, a0v, iO, h]; rfl
@[go_sem] theorem g02 {t : Nat} {ks : List AV} : psS st N (.t t) j (.tup ks) = iO (a0z ks) (some (st.put j (.tup ks))) (some ((st.set t (.tup (a2g ks))).put j (.tup (a2g ks)))) := by
 by_cases h : a0z ks = true
 ·simp only [psS, a0k, if_true, a4c, a0v, iO, h]; rfl
 ·simp only [psS, a0k, if_true, a4c, a0v, iO, h]; rfl
@[go_sem] theorem g0z {t : Nat} {T : TypeId} {k : AV} : psS st N (.t t) j (.ifc T k) = iO (a0v k) (some (st.put j (.ifc T k))) (some ((st.set t (.ifc T (frz k))).put j (.ifc T (frz k)))) := by
 by_cases h : a0v k = true
 ·simp only [psS, a0k, if_true, a4c, a0v, iO, h]; rfl
 ·simp only [psS, a0k, if_true, a4c, a0v, iO, h]; rfl
end
def gvs (N : Nat) : Nat -> List (Bool × X) -> Option St -> Option St
 | _, _, none => none
 | _, [], some st => some st
 | j, (true, x) :: xs, some st => gvs N (j + 1) xs (gvS st N x j (rdv st x))
 | j, (false, _) :: xs, some st => gvs N (j + 1) xs (some st)
def pss (N : Nat) : Nat -> List (Bool × X) -> Option St -> Option St
 | _, _, none => none
 | _, [], some st => some st
 | j, (false, x) :: xs, some st => pss N (j + 1) xs (psS st N x j (rdv st x))
 | j, (true, _) :: xs, some st => pss N (j + 1) xs (some st)
@[congr] theorem e6v {j : Nat} {xs : List (Bool × X)} {o o' : Option St} (h : o = o') : gvs N j xs o = gvs N j xs o' := by rw [h]
@[congr] theorem e89 {j : Nat} {xs : List (Bool × X)} {o o' : Option St} (h : o = o') : pss N j xs o = pss N j xs o' := by rw [h]
@[go_sem] theorem f8u {j : Nat} : gvs N j [] (some st) = some st := (rfl)
@[go_sem] theorem g6s {j : Nat} {x : X} {xs : List (Bool × X)} : gvs N j ((true, x) :: xs) (some st) = gvs N (j + 1) xs (gvS st N x j (rdv st x)) := (rfl)
@[go_sem] theorem g6r {j : Nat} {x : X} {xs : List (Bool × X)} : gvs N j ((false, x) :: xs) (some st) = gvs N (j + 1) xs (some st) := (rfl)
@[go_sem] theorem g04 {j : Nat} : pss N j [] (some st) = some st := (rfl)
@[go_sem] theorem g62 {j : Nat} {x : X} {xs : List (Bool × X)} : pss N j ((false, x) :: xs) (some st) = pss N (j + 1) xs (psS st N x j (rdv st x)) := (rfl)
@[go_sem] theorem g63 {j : Nat} {x : X} {xs : List (Bool × X)} : pss N j ((true, x) :: xs) (some st) = pss N (j + 1) xs (some st) := (rfl)
theorem d40 {j : Nat} {xs : List (Bool × X)} : gvs N j xs none = none := by cases xs <;> rfl
theorem d5m {j : Nat} {xs : List (Bool × X)} : pss N j xs none = none := by cases xs <;> rfl
theorem a9n : ∀ (xs : List (Bool × X)) (j : Nat) (st : St), ((a60 N j xs).run st).map (·.2) = gvs N j xs (some st)
 | [], j, st => rfl
 | (b, x) :: xs, j, st => by
  simp only [a60, Ev.run_bind, Option.bind]
  cases b with
  | true =>
   have h := d2o (N := N) (st := st) x j
   simp only [if_true, gvs]
   rw [<- h]
   cases (c5x N x j).run st with
   | none => simp [d40]
   | some r => exact a9n xs (j + 1) r.2
  | false =>
   simp only [Bool.false_eq_true, if_false, Ev.run_pure]
   exact a9n xs (j + 1) st
theorem a40 : ∀ (xs : List (Bool × X)) (j : Nat) (st : St), ((a4j N j xs).run st).map (·.2) = pss N j xs (some st)
 | [], j, st => rfl
 | (b, x) :: xs, j, st => by
  simp only [a4j, Ev.run_bind, Option.bind]
  cases b with
  | false =>
   have h := d2q (N := N) (st := st) x j
   simp only [Bool.false_eq_true, if_false, pss]
   rw [<- h]
   cases (c1w N x j).run st with
   | none => simp [d5m]
   | some r => exact a40 xs (j + 1) r.2
  | true =>
   simp only [if_true, Ev.run_pure]
   exact a40 xs (j + 1) st
def b4p (st : St) (N : Nat) (d : Option Nat) (res : AV) : St := match d with
 | some d => (st.clear N).thru N d res
 | none => st.clear N
@[go_sem] theorem e55 {d : Nat} {res : AV} : b4p st N (some d) res = (st.clear N).thru N d res := (rfl)
@[go_sem] theorem e54 {res : AV} : b4p st N none res = st.clear N := (rfl)
def cal (P : Program) (G : GG) (N : Nat) (d : Option Nat) (f : FuncId) (pre : List AV) (st1 st2 : St) (K : St -> Prop) : Prop :=
 ∃ res, ACalls P G f pre res /\ a0k res = true /\ K (b4p (if a09 res then st1 else st2) N d res)
def d35 (P : Program) (G : GG) (N : Nat) (d : Option Nat) (f : FuncId) (n : Nat) (o1 o2 : Option St) (K : St -> Prop) : Prop := match o1, o2 with
 | some st1, some st2 => cal P G N d f (a69 N n st2) st1 st2 K
 | _, _ => False
def d7p (P : Program) (G : GG) (N : Nat) (d : Option Nat) (f : FuncId) (args : List (Bool × X)) (o1 : Option St) (K : St -> Prop) : Prop := d35 P G N d f args.length o1 (pss N (N + 2) args o1) K
@[congr] theorem e00 {d : Option Nat} {f : FuncId} {args : List (Bool × X)} {o1 o1' : Option St} (h : o1 = o1') : d7p P G N d f args o1 K = d7p P G N d f args o1' K := by rw [h]
@[congr] theorem e01 {d : Option Nat} {f : FuncId} {n : Nat} {o1 o2 o2' : Option St} (h : o2 = o2') : d35 P G N d f n o1 o2 K = d35 P G N d f n o1 o2' K := by rw [h]
@[congr] theorem e4u {d : Option Nat} {f : FuncId} {pre pre' : List AV} {st1 st2 : St} (h : pre = pre') : cal P G N d f pre st1 st2 K = cal P G N d f pre' st1 st2 K := by rw [h]
@[go_sem] theorem e4s {d : Option Nat} {f : FuncId} {args : List (Bool × X)} : d7p P G N d f args (some st) K = d35 P G N d f args.length (some st) (pss N (N + 2) args (some st)) K := (rfl)
@[go_sem] theorem e4t {d : Option Nat} {f : FuncId} {n : Nat} {st2 : St} : d35 P G N d f n (some st) (some st2) K = cal P G N d f (a69 N n st2) st st2 K := (rfl)
@[go_sem] theorem e3v {d : Option Nat} {f : FuncId} {args : List (Bool × X)} {tys : List TypeId} {rest : List AO} : b22 P G N (⟨d, .call f args tys, none⟩ :: rest) K st = d7p P G N d f args (gvs N (N + 2) args (some st)) (b22 P G N rest K) := by
 simp only [b22, b3d, b9k, d66]
 rw [<- a9n]
 apply propext
 constructor
 ·rintro ⟨st1, st2, res, st3, h1, h2, h3, h4, h5, h6⟩
  have e2 := a40 (N := N) args (N + 2) st1
  rw [h2] at e2
  simp only [h1, Option.map, d7p, d35, <- e2]
  refine ⟨res, h3, h4, ?_⟩
  have : b4p (if a09 res then st1 else st2) N d res = st3 := by
   cases d with
   | none =>
    simp only [c4p, Ev.run_pure, Option.some.injEq, Prod.mk.injEq, true_and] at h5
    exact h5
   | some d =>
    simp only [c4p, a9o, Option.some.injEq, Prod.mk.injEq, true_and] at h5
    exact h5
  rw [this]; exact h6
 ·cases h1 : (a60 N (N + 2) args).run st with
  | none => intro h; simp only [Option.map, d7p, d35] at h
  | some r =>
   obtain ⟨_, st1⟩ := r
   simp only [Option.map, d7p]
   rw [<- a40]
   cases h2 : (a4j N (N + 2) args).run st1 with
   | none => intro h; simp only [Option.map, d35] at h
   | some r2 =>
    obtain ⟨_, st2⟩ := r2
    simp only [Option.map, d35]
    rintro ⟨res, h3, h4, h5⟩
    refine ⟨st1, st2, res, _, rfl, h2, h3, h4, ?_, h5⟩
    cases d <;> rfl
@[go_sem] theorem g0p : a69 N 0 st = [] := (rfl)
@[go_sem] theorem g0q : a69 N 1 st = [st.s (N + 2 + 0)] := (rfl)
@[go_sem] theorem g0r : a69 N 2 st = [st.s (N + 2 + 0), st.s (N + 2 + 1)] := (rfl)
@[go_sem] theorem g0s : a69 N 3 st = [st.s (N + 2 + 0), st.s (N + 2 + 1), st.s (N + 2 + 2)] := (rfl)
@[go_sem] theorem g0t : a69 N 4 st = [st.s (N + 2 + 0), st.s (N + 2 + 1), st.s (N + 2 + 2), st.s (N + 2 + 3)] := (rfl)
@[go_sem] theorem g0u : a69 N 5 st = [st.s (N + 2 + 0), st.s (N + 2 + 1), st.s (N + 2 + 2), st.s (N + 2 + 3), st.s (N + 2 + 4)] := (rfl)
@[go_sem] theorem g0v : a69 N 6 st = [st.s (N + 2 + 0), st.s (N + 2 + 1), st.s (N + 2 + 2), st.s (N + 2 + 3), st.s (N + 2 + 4), st.s (N + 2 + 5)] := (rfl)
theorem a0b {d : Option Nat} {f : FuncId} {pre : List AV} {st1 st2 : St} {res : AV} (hA : ACalls P G f pre res) (hn : a0k res = true) (hi : a09 res = true) (h : K (b4p st1 N d res)) : cal P G N d f pre st1 st2 K := ⟨res, hA, hn, by rw [hi]; exact h⟩
theorem d0f {d : Option Nat} {f : FuncId} {pre : List AV} {st1 st2 : St} {res : AV} (hA : ACalls P G f pre res) (hn : a0k res = true) (h : K (b4p st1 N d res)) (h2 : K (b4p st2 N d res)) : cal P G N d f pre st1 st2 K := ⟨res, hA, hn, by split; exact h; exact h2⟩
inductive RV where
 | tmp (t : Nat)
 | cell (t : Nat)
 | cells (t sz : Nat)
def RV.ok (P : Program) (N : Nat) : RV -> ResultVar -> Bool
 | .tmp t, .tmp t' => t == t' && decide (t < N)
 | .cell t, .cell t' T => t == t' && decide (t < N) && b9w P T == some false
 | .cells t sz, .cell t' T => t == t' && decide (t < N) && b9w P T == some true && b2z P T sz
 | _, _ => false
def c4e (r : RV) (st : St) : Option AV := match r with
 | .tmp t => if a0k (st.s t) then some (st.s t) else none
 | .cell t => match st.s t with
  | .var [k] => some k
  | _ => none
 | .cells t sz => match st.s t with
  | .var ks => gO (ks.length = sz) (some (.agg ks))
  | _ => none
theorem c6y {r : RV} {v : ResultVar} {k : AV} (h : r.ok P N v = true) (hk : c4e r st = some k) : b6t P N st v = some k := by
 cases r with
 | tmp t =>
  cases v <;> simp only [RV.ok, Bool.and_eq_true, beq_iff_eq, decide_eq_true_eq, Bool.false_eq_true] at h
  obtain ⟨rfl, h⟩ := h
  simp only [c4e] at hk
  simp only [b6t, h, decide_true, Bool.true_and]
  exact hk
 | cell t =>
  cases v <;> simp only [RV.ok, Bool.and_eq_true, beq_iff_eq, decide_eq_true_eq, Bool.false_eq_true] at h
  obtain ⟨⟨rfl, h1⟩, h2⟩ := h
  simp only [c4e] at hk
  simp only [b6t, h1, if_true]
  split at hk
  ·rename_i k' hs
   rw [hs]
   simp only [h2]
   exact hk
  ·cases hk
 | cells t sz =>
  cases v <;> simp only [RV.ok, Bool.and_eq_true, beq_iff_eq, decide_eq_true_eq, Bool.false_eq_true] at h
  obtain ⟨⟨⟨rfl, h1⟩, h2⟩, h3⟩ := h
  simp only [c4e] at hk
  simp only [b6t, h1, if_true]
  split at hk
  ·rename_i ks hs
   simp only [gO] at hk
   split at hk
   ·rename_i hl
    rw [hs]
    simp only [h2, hl, h3, if_true]
    exact hk
   ·cases hk
  ·cases hk
def rvL : List RV -> St -> Option (List AV)
 | [], _ => some []
 | r :: rs, st => match c4e r st, rvL rs st with
  | some k, some ks => some (k :: ks)
  | _, _ => none
def c4f (P : Program) (N : Nat) : List RV -> List ResultVar -> Bool
 | [], [] => true
 | r :: rs, v :: vs => r.ok P N v && c4f P N rs vs
 | _, _ => false
theorem b82 : ∀ {rs : List RV} {vs : List ResultVar} {ks : List AV}, c4f P N rs vs = true -> rvL rs st = some ks -> d6z P N st vs = some ks
 | [], [], ks, _, hk => hk
 | [], _ :: _, ks, h, _ => by cases h
 | _ :: _, [], ks, h, _ => by cases h
 | r :: rs, v :: vs, ks, h, hk => by
  simp only [c4f, Bool.and_eq_true] at h
  simp only [rvL] at hk
  split at hk
  ·rename_i k ks' h1 h2
   simp only [d6z, c6y h.1 h1, b82 h.2 h2]
   exact hk
  ·cases hk
def e3b (rs : List RV) (st : St) : Option AV := match rvL rs st with
 | some [k] => some k
 | some ks => some (.tup ks)
 | none => none
def d76 (rs : List RV) (res : AV) : Exit -> St -> Prop
 | .normal, st | .ret, st => e3b rs st = some res
 | _, _ => False
@[congr] theorem e1n {rs : List RV} {res : AV} {e : Exit} {st' : St} (h2 : st = st') : d76 rs res e st = d76 rs res e st' := by rw [h2]
def rv1 (r : RV) (v : AV) : Option AV := match r with
 | .tmp t => if a0k v then some v else none
 | .cell t => match v with
  | .var [k] => some k
  | _ => none
 | .cells t sz => match v with
  | .var ks => gO (ks.length = sz) (some (.agg ks))
  | _ => none
def avs (a : Option AV) (l : Option (List AV)) : Option (List AV) := match a, l with
 | some k, some ks => some (k :: ks)
 | _, _ => none
def e0b (l : Option (List AV)) : Option AV := match l with
 | some [k] => some k
 | some ks => some (.tup ks)
 | none => none
@[go_sem] theorem g56 {k : AV} : e0b (some [k]) = some k := (rfl)
@[go_sem] theorem g55 : e0b (some []) = some (.tup []) := (rfl)
@[go_sem] theorem g57 {a b : AV} {ks : List AV} : e0b (some (a :: b :: ks)) = some (.tup (a :: b :: ks)) := (rfl)
@[go_sem] theorem f1k {k : AV} {ks : List AV} : avs (some k) (some ks) = some (k :: ks) := (rfl)
@[go_sem] theorem g1k {t : Nat} {v : AV} : rv1 (.tmp t) v = if a0k v then some v else none := (rfl)
@[go_sem] theorem f5r {t : Nat} {k : AV} : rv1 (.cell t) (.var [k]) = some k := (rfl)
@[go_sem] theorem e90 {t sz : Nat} {ks : List AV} : rv1 (.cells t sz) (.var ks) = gO (ks.length = sz) (some (.agg ks)) := (rfl)
@[go_sem] theorem g1l : rvL [] st = some [] := (rfl)
@[go_sem] theorem g1m {t : Nat} {rs : List RV} : rvL (.tmp t :: rs) st = avs (rv1 (.tmp t) (st.s t)) (rvL rs st) := by
 simp only [rvL, avs, c4e, rv1]
@[go_sem] theorem f5s {t : Nat} {rs : List RV} : rvL (.cell t :: rs) st = avs (rv1 (.cell t) (st.s t)) (rvL rs st) := by
 simp only [rvL, avs, c4e, rv1]
@[go_sem] theorem e91 {t sz : Nat} {rs : List RV} : rvL (.cells t sz :: rs) st = avs (rv1 (.cells t sz) (st.s t)) (rvL rs st) := by
 simp only [rvL, avs, c4e, rv1]
@[go_sem] theorem g3y {rs : List RV} {res : AV} : d76 rs res .normal st = (e0b (rvL rs st) = some res) := (rfl)
@[go_sem] theorem g3z {rs : List RV} {res : AV} : d76 rs res .ret st = (e0b (rvL rs st) = some res) := (rfl)
theorem c8n {rs : List RV} {vs : List ResultVar} {res : AV} (h : c4f P N rs vs = true) : ∀ e st, d76 rs res e st -> e1l P N vs res e st := by
 intro e st hq
 have key : e3b rs st = some res -> b8x P N st vs = some res := by
  intro hk
  unfold e3b at hk
  cases hl : rvL rs st with
  | none => rw [hl] at hk; cases hk
  | some ks =>
   rw [hl] at hk
   simp only [b8x, b82 h hl]
   exact hk
 cases e <;> first | exact key hq | exact hq
end
theorem ACalls.of_walk {P : Program} {G : GG} {f : FuncId} {fn : Func} {c : Code} {N : Nat} {vs : List ResultVar} {rs : List RV} {ic : IC} (hord : P.follows .mixedOrders = true) (hf : P.funcs[f]? = some fn) (hb : fn.body = some c) (hN : fn.ntmps = N) (hrs : fn.results.toList = vs) (hnd : (vs.map rvT).Nodup)
  (he : b2k c = ic.ec) (hok : ic.ok P N = true) (hr : c4f P N rs vs = true) {pre : List AV} {res : AV} (hsz : pre.length <= N) (h : AW P G N ic (d76 rs res) (St.init pre)) : ACalls P G f pre res :=
 b9l hf hb hN hrs hnd hsz ((c67 hord ic c _ _ he hok (IC.pin_nil ic) h).mono (c8n hr))
end Go.Ideal
end
section
namespace Go.Ideal
section
variable {k : IntKind} {a b : Int}
theorem a47 {b : BinOp} {k : IntKind} {x y : Int} {v : Value} (h : a2x b (.int k x) (.int k y) = some v) {kd : Nat} (hk : kd = 0) : a4e b kd (.lit (.int k x)) (.lit (.int k y)) = some (.lit v) := by
 subst hk; simp [a4e, c8y, h]
theorem d7d : a2x .add (.int k a) (.int k b) = some (.int k (k.wrap (a + b))) := by simp [a2x, Op.intArith]; rfl
theorem d7o : a2x .sub (.int k a) (.int k b) = some (.int k (k.wrap (a - b))) := by simp [a2x, Op.intArith]; rfl
theorem d7j : a2x .mul (.int k a) (.int k b) = some (.int k (k.wrap (a * b))) := by simp [a2x, Op.intArith]; rfl
theorem d7e : a2x .eql (.int k a) (.int k b) = some (.bool (a == b)) := by simp [a2x, Op.intCmp]; rfl
theorem d7k : a2x .neq (.int k a) (.int k b) = some (.bool (a != b)) := by simp [a2x, Op.intCmp]; rfl
theorem d7i : a2x .lss (.int k a) (.int k b) = some (.bool (decide (a < b))) := by simp [a2x, Op.intCmp]; rfl
theorem d7h : a2x .leq (.int k a) (.int k b) = some (.bool (decide (a <= b))) := by simp [a2x, Op.intCmp]; rfl
theorem d7g : a2x .gtr (.int k a) (.int k b) = some (.bool (decide (a > b))) := by simp [a2x, Op.intCmp]; rfl
theorem d7f : a2x .geq (.int k a) (.int k b) = some (.bool (decide (a ≥ b))) := by simp [a2x, Op.intCmp]; rfl
@[go_sem] theorem g2s : a4e .add 0 (.lit (.int k a)) (.lit (.int k b)) = some (.lit (.int k (k.wrap (a + b)))) := a47 d7d rfl
@[go_sem] theorem g23 : a4e .sub 0 (.lit (.int k a)) (.lit (.int k b)) = some (.lit (.int k (k.wrap (a - b)))) := a47 d7o rfl
@[go_sem] theorem g2y : a4e .mul 0 (.lit (.int k a)) (.lit (.int k b)) = some (.lit (.int k (k.wrap (a * b)))) := a47 d7j rfl
@[go_sem] theorem g2t : a4e .eql 0 (.lit (.int k a)) (.lit (.int k b)) = some (.lit (.bool (decide (a = b)))) := by
 rw [a47 d7e rfl]; simp only [Option.some.injEq, AV.lit.injEq, Value.bool.injEq]; by_cases h : a = b <;> simp [h]
@[go_sem] theorem g2z : a4e .neq 0 (.lit (.int k a)) (.lit (.int k b)) = some (.lit (.bool (!decide (a = b)))) := by
 rw [a47 d7k rfl]; simp only [Option.some.injEq, AV.lit.injEq, Value.bool.injEq]; by_cases h : a = b <;> simp [h]
@[go_sem] theorem g2x : a4e .lss 0 (.lit (.int k a)) (.lit (.int k b)) = some (.lit (.bool (decide (a < b)))) := a47 d7i rfl
@[go_sem] theorem g2w : a4e .leq 0 (.lit (.int k a)) (.lit (.int k b)) = some (.lit (.bool (decide (a <= b)))) := a47 d7h rfl
@[go_sem] theorem g2v : a4e .gtr 0 (.lit (.int k a)) (.lit (.int k b)) = some (.lit (.bool (decide (b < a)))) := a47 d7g rfl
@[go_sem] theorem g2u : a4e .geq 0 (.lit (.int k a)) (.lit (.int k b)) = some (.lit (.bool (decide (b <= a)))) := a47 d7f rfl
end
section
variable {a b : Bool}
@[go_sem] theorem f6r : a4e .eql 1 (.lit (.bool a)) (.lit (.bool b)) = some (.lit (.bool (decide (a = b)))) := by cases a <;> cases b <;> rfl
@[go_sem] theorem f6s : a4e .neq 1 (.lit (.bool a)) (.lit (.bool b)) = some (.lit (.bool (!decide (a = b)))) := by cases a <;> cases b <;> rfl
@[go_sem] theorem e38 : a4e .eql 2 (.lit .nilIface) (.lit .nilIface) = some (.lit (.bool true)) := (rfl)
@[go_sem] theorem e4b : a4e .neq 2 (.lit .nilIface) (.lit .nilIface) = some (.lit (.bool false)) := (rfl)
@[go_sem] theorem e37 {T : TypeId} {v : Value} : a4e .eql 2 (.lit (.iface T v)) (.lit .nilIface) = some (.lit (.bool false)) := (rfl)
@[go_sem] theorem e4a {T : TypeId} {v : Value} : a4e .neq 2 (.lit (.iface T v)) (.lit .nilIface) = some (.lit (.bool true)) := (rfl)
@[go_sem] theorem e36 {T : TypeId} {k : AV} : a4e .eql 2 (.ifc T k) (.lit .nilIface) = some (.lit (.bool false)) := (rfl)
@[go_sem] theorem e39 {T : TypeId} {k : AV} : a4e .neq 2 (.ifc T k) (.lit .nilIface) = some (.lit (.bool true)) := (rfl)
@[go_sem] theorem e4d : a4e .eql 3 (.lit (.pointer none)) (.lit (.pointer none)) = some (.lit (.bool true)) := (rfl)
@[go_sem] theorem e4f : a4e .neq 3 (.lit (.pointer none)) (.lit (.pointer none)) = some (.lit (.bool false)) := (rfl)
@[go_sem] theorem e4c {ks : List AV} {o : Nat} : a4e .eql 3 (.ip ks o) (.lit (.pointer none)) = some (.lit (.bool false)) := (rfl)
@[go_sem] theorem e4e {ks : List AV} {o : Nat} : a4e .neq 3 (.ip ks o) (.lit (.pointer none)) = some (.lit (.bool true)) := (rfl)
end
theorem f68 {p : Prop} [Decidable p] (h : p) : decide p = true := decide_eq_true h
theorem f67 {p : Prop} [Decidable p] (h : ¬ p) : decide p = false := decide_eq_false h
theorem b5n {n : Int} (h : -9223372036854775808 <= n /\ n <= 9223372036854775807) : IntKind.i64.wrap n = n := by rw [IntKind.wrap_i64]; omega
section
variable {α : Type} {f : α -> AV}
theorem d8j [Inhabited α] {xs : List α} {i : Nat} (h : i < xs.length) : (xs.map f)[i]? = some (f xs[i]!) := by
 simp [h]
theorem c0s {β : Type} {l : List β} {o : Nat} {v : β} (h : o < l.length) : a0r l o [v] = l.set o v := by
 simp only [a0r, List.length_cons, List.length_nil]
 rw [List.set_eq_take_append_cons_drop, if_pos h]
 simp
theorem c9q {xs : List α} {o : Nat} {v : AV} (h : o < xs.length) : a0r (xs.map f) o [v] = (xs.map f).set o v := c0s (by simpa using h)
theorem c18 {xs : List α} {o i : Nat} {v w : AV} (h : o < xs.length) : a0r ((xs.map f).set i w) o [v] = ((xs.map f).set i w).set o v := c0s (by simpa using h)
@[go_sem] theorem d64 {xs : List α} : List.take xs.length (xs.map f) = xs.map f := List.take_of_length_le (by simp)
end
@[go_sem] theorem e3h {α : Type} {l : List α} {o : Nat} : a0r l o [] = l := by simp [a0r]
@[go_sem] theorem f59 {α : Type} {a x : α} {l xs : List α} : a0r (a :: l) 0 (x :: xs) = x :: a0r l 0 xs := by simp [a0r]
@[go_sem] theorem f5z {α : Type} {a : α} {l xs : List α} {o : Nat} : a0r (a :: l) (o + 1) xs = a :: a0r l o xs := by
 simp [a0r, show o + 1 + xs.length = (o + xs.length) + 1 by omega]
@[go_sem] theorem b59 {α : Type} {f : α -> AV} {xs : List α} (h : ∀ x, a0v (f x) = true) : a0z (xs.map f) = true := by
 induction xs with
 | nil => rfl
 | cons x xs ih => simp [a0z, h, ih]
@[go_sem] theorem b57 {α : Type} {f : α -> AV} {xs : List α} (h : ∀ x, a09 (f x) = true) : a1f (xs.map f) = true := by
 induction xs with
 | nil => rfl
 | cons x xs ih => simp [a1f, h, ih]
@[go_sem] theorem f23 {α : Type} {f : α -> AV} {xs : List α} : a2g (xs.map f) = xs.map fun x => frz (f x) := by
 induction xs with
 | nil => rfl
 | cons x xs ih => simp [a2g, ih]
@[go_sem] theorem g5r {n : Nat} {z : AV} : a7a n [z] = List.replicate n z := by
 simp only [a7a]; induction n with
 | zero => rfl
 | succ n ih => simp [List.replicate_succ, ih]
def iG (v : Option AV) : AV := match v with
 | some v => v
 | none => .lit undef
@[go_sem] theorem f8x {v : AV} : iG (some v) = v := (rfl)
@[go_sem] theorem f8w : iG none = .lit undef := (rfl)
@[go_sem] theorem g1o {pre : List AV} {t : Nat} : (St.init pre).s t = iG pre[t]? := by
 simp only [St.init, iG]; cases pre[t]? <;> rfl
@[go_sem] theorem f5u {pre : List AV} {t : Nat} : (St.init pre).ep t = 0 := (rfl)
attribute [go_sem] List.getElem?_cons_zero List.getElem?_cons_succ List.getElem?_nil List.map_nil List.map_cons List.length_cons List.length_nil Nat.zero_add Nat.add_zero Nat.mul_one Nat.mul_zero Nat.zero_mul List.set_cons_zero List.set_cons_succ List.append_nil List.nil_append List.cons_append List.drop_zero List.take_zero List.drop_succ_cons List.take_succ_cons List.take_nil List.drop_nil Int.toNat_natCast List.length_map List.isEmpty_nil List.isEmpty_cons beq_self_eq_true Option.map_some Option.map_none decide_true decide_false and_true true_and Bool.true_or Bool.or_true Bool.false_or Bool.or_false List.take_length List.length_replicate List.map_map Function.comp_def Option.some.injEq
end Go.Ideal
end
section
namespace Go.Ideal
section
variable {P : Program} {G : GG} {N : Nat}
theorem a08 {Q : Exit -> St -> Prop} {st : St} {a : IC} (ι : Type) (I : ι -> St -> Prop) (μ : ι -> Nat) (i0 : ι) (h0 : I i0 st) (h : ∀ i st K, I i st -> (∀ i' st', I i' st' -> μ i' < μ i -> K st') -> AW P G N a (b9a K Q) st) : AW P G N (.loop a) Q st :=
 ⟨ι, I, μ, i0, h0, fun i st hi => h i st _ hi fun i' st' h1 h2 => ⟨i', h1, h2⟩⟩
section
variable {kl : Nat -> List Nat -> Bool} {v : Value} {n sz o e t lo f T : Nat} {q : List Nat} {ks a b : List AV} {k : AV}
@[go_sem] theorem e13 : a1p kl .dead = .dead := by simp only [a1p]
@[go_sem] theorem e64 : a1p kl (.lit v) = .lit v := by simp only [a1p]
@[go_sem] theorem f3g : a1p kl (.sl n ks) = .sl n ks := by simp only [a1p]
@[go_sem] theorem f3f : a1p kl (.ip ks o) = .ip ks o := by simp only [a1p]
@[go_sem] theorem e65 : a1p kl (.own sz n ks) = .own sz n ks := by simp only [a1p]
@[go_sem] theorem e68 : a1p kl (.var ks) = .var ks := by simp only [a1p]
@[go_sem] theorem e61 : a1p kl (.agg ks) = .agg ks := by simp only [a1p]
@[go_sem] theorem e67 : a1p kl (.tup ks) = .tup ks := by simp only [a1p]
@[go_sem] theorem e63 : a1p kl (.ifc T k) = .ifc T k := by simp only [a1p]
@[go_sem] theorem f3e : a1p kl (.fn f a b) = .fn f (b7l kl a) (b7l kl b) := by simp only [a1p]
@[go_sem] theorem e66 : a1p kl (.ref t q o e) = if kl t q then .dead else .ref t q o e := by simp only [a1p]
@[go_sem] theorem e62 : a1p kl (.bor t q lo n e) = if kl t q then .dead else .bor t q lo n e := by simp only [a1p]
@[go_sem] theorem e8l : a0v (.lit v) = true := by simp only [a0v]
@[go_sem] theorem f4c : a0v (.sl n ks) = true := by simp only [a0v]
@[go_sem] theorem f4b : a0v (.ip ks o) = true := by simp only [a0v]
@[go_sem] theorem f4a : a0v (.fn f a b) = true := by simp only [a0v]
@[go_sem] theorem e8n : a0v (.ref t q o e) = true := by simp only [a0v]
@[go_sem] theorem e8j : a0v (.bor t q lo n e) = true := by simp only [a0v]
@[go_sem] theorem f77 : frz (.lit v) = .lit v := by simp only [frz]
@[go_sem] theorem g37 : frz (.sl n ks) = .sl n ks := by simp only [frz]
@[go_sem] theorem g36 : frz (.ip ks o) = .ip ks o := by simp only [frz]
@[go_sem] theorem g35 : frz (.fn f a b) = .fn f a b := by simp only [frz]
@[go_sem] theorem e8b : a09 (.lit v) = true := by simp only [a09]
@[go_sem] theorem e2j : a09 .dead = true := by simp only [a09]
@[go_sem] theorem e8m : a0v (.own sz n ks) = false := by simp only [a0v]
@[go_sem] theorem e8p : a0v (.var ks) = false := by simp only [a0v]
@[go_sem] theorem e8i : a0v (.agg ks) = a0z ks := by simp only [a0v]
@[go_sem] theorem e8o : a0v (.tup ks) = a0z ks := by simp only [a0v]
@[go_sem] theorem e8k : a0v (.ifc T k) = a0v k := by simp only [a0v]
@[go_sem] theorem f79 : frz (.own sz n ks) = .sl n (a2g ks) := by simp only [frz]
@[go_sem] theorem f8b : frz (.var ks) = .ip (a2g ks) 0 := by simp only [frz]
@[go_sem] theorem f74 : frz (.agg ks) = .agg (a2g ks) := by simp only [frz]
@[go_sem] theorem f8a : frz (.tup ks) = .tup (a2g ks) := by simp only [frz]
@[go_sem] theorem f75 : frz (.ifc T k) = .ifc T (frz k) := by simp only [frz]
@[go_sem] theorem f33 : a09 (.sl n ks) = ks.isEmpty := by simp only [a09]
@[go_sem] theorem f32 : a09 (.ip ks o) = false := by simp only [a09]
@[go_sem] theorem e8c : a09 (.own sz n ks) = a1f ks := by simp only [a09]
@[go_sem] theorem e8e : a09 (.var ks) = a1f ks := by simp only [a09]
@[go_sem] theorem e79 : a09 (.agg ks) = a1f ks := by simp only [a09]
@[go_sem] theorem e8d : a09 (.tup ks) = a1f ks := by simp only [a09]
@[go_sem] theorem e8a : a09 (.ifc T k) = a09 k := by simp only [a09]
@[go_sem] theorem f31 : a09 (.fn f a b) = (a1f a && a1f b) := by simp only [a09]
@[go_sem] theorem e8v : a0k (.ref t q o e) = false := by simp only [a0k]
@[go_sem] theorem e8r : a0k (.bor t q lo n e) = false := by simp only [a0k]
@[go_sem] theorem f4d : a0k (.fn f a b) = (a45.noRefL a && a45.noRefL b) := by simp only [a0k]
@[go_sem] theorem e8t : a0k (.lit v) = true := by simp only [a0k]
@[go_sem] theorem f4f : a0k (.sl n ks) = true := by simp only [a0k]
@[go_sem] theorem f4e : a0k (.ip ks o) = true := by simp only [a0k]
@[go_sem] theorem e8u : a0k (.own sz n ks) = true := by simp only [a0k]
@[go_sem] theorem e8x : a0k (.var ks) = true := by simp only [a0k]
@[go_sem] theorem e8q : a0k (.agg ks) = true := by simp only [a0k]
@[go_sem] theorem e8w : a0k (.tup ks) = true := by simp only [a0k]
@[go_sem] theorem e8s : a0k (.ifc T k) = true := by simp only [a0k]
end
attribute [go_sem] f68 f67 e6p b5n d8j c9q c18 List.set_set List.map_append List.length_append List.length_set
end
end Go.Ideal
end
section
namespace Go.Ideal
theorem a5h {N : Nat} {α β : Type} : ∀ (x : Ev α) (f : α -> Ev β) (st : St) (sw : List Nat), (x >>= f).runF N st sw = (x.runF N st sw).bind fun r => ((f r.a).runF N r.st r.sw).map fun r2 => { r2 with rd := r.rd ++ r2.rd, wr := r.wr ++ r2.wr }
 | .ret a, f, st, sw => by
  show (f a).runF N st sw = _
  simp [Ev.runF]
 | .fail, f, st, sw => rfl
 | .get t k, f, st, sw => by
  show (Ev.get t fun v e => k v e >>= f).runF N st sw = _
  simp only [Ev.runF]
  split
  ·rw [a5h]
   cases (k (st.s t) (st.ep t)).runF N st sw with
   | none => rfl
   | some r => simp [Function.comp_def]
  ·rfl
 | .getv t k, f, st, sw => by
  show (Ev.getv t fun v => k v >>= f).runF N st sw = _
  simp only [Ev.runF]
  split
  ·rw [a5h]
   cases (k (st.s t)).runF N st sw with
   | none => rfl
   | some r => simp [Function.comp_def]
  ·split
   ·rw [a5h]
   ·rfl
 | .put t v k, f, st, sw => by
  show (Ev.put t v (k >>= f)).runF N st sw = _
  simp only [Ev.runF]
  split
  ·rw [a5h]
   cases k.runF N (st.put t v) sw with
   | none => rfl
   | some r => simp [Function.comp_def]
  ·rw [a5h]
 | .upd t v k, f, st, sw => by
  show (Ev.upd t v (k >>= f)).runF N st sw = _
  simp only [Ev.runF]
  split
  ·rw [a5h]
   cases k.runF N (st.set t v) sw with
   | none => rfl
   | some r => simp [Function.comp_def]
  ·rw [a5h]
 | .kill t q o m k, f, st, sw => by
  show (Ev.kill t q o m (k >>= f)).runF N st sw = _
  simp only [Ev.runF]
  rw [a5h]
  cases k.runF N (st.kill t q o m) sw with
  | none => rfl
  | some r => simp [Function.comp_def]
def a3r : AV -> Option Nat
 | .ref t _ _ _ => some t
 | .bor t _ _ _ _ => some t
 | _ => none
def FpP (D : Nat -> Prop) (N : Nat) {α : Type} (e : Ev α) (st : St) (sw : List Nat) (Post : α -> St -> List Nat -> Prop) : Prop :=
 ∀ a st', e.run st = some (a, st') -> ∃ rd wr sw', e.runF N st sw = some ⟨a, st', rd, wr, sw'⟩ /\ (∀ t ∈ rd, D t) /\ (∀ t ∈ wr, D t) /\ Post a st' sw'
section
variable {D : Nat -> Prop} {N : Nat} {α β : Type} {st : St} {sw : List Nat} {Post : β -> St -> List Nat -> Prop} {f : α -> Ev β}
theorem FpP.bindM {x : Ev α} (h : FpP D N x st sw (fun a st' sw' => FpP D N (f a) st' sw' Post)) : FpP D N (x >>= f) st sw Post := by
 intro a st' hr
 rw [Ev.run_bind] at hr
 cases hx : x.run st with
 | none => rw [hx] at hr; cases hr
 | some r =>
  obtain ⟨b, st1⟩ := r
  rw [hx] at hr
  obtain ⟨rd, wr, sw1, h1, h2, h3, h4⟩ := h b st1 hx
  obtain ⟨rd2, wr2, sw2, g1, g2, g3, g4⟩ := h4 a st' hr
  refine ⟨rd ++ rd2, wr ++ wr2, sw2, ?_, ?_, ?_, g4⟩
  ·rw [a5h, h1]; simp only [Option.bind, g1, Option.map]
  ·intro t ht; rcases List.mem_append.1 ht with ht | ht; exact h2 t ht; exact g2 t ht
  ·intro t ht; rcases List.mem_append.1 ht with ht | ht; exact h3 t ht; exact g3 t ht
theorem FpP.mono {Q : α -> St -> List Nat -> Prop} {P : α -> St -> List Nat -> Prop} {x : Ev α} (h : FpP D N x st sw P) (hpq : ∀ a st' sw', P a st' sw' -> Q a st' sw') : FpP D N x st sw Q := by
 intro a st' hr
 obtain ⟨rd, wr, sw1, h1, h2, h3, h4⟩ := h a st' hr
 exact ⟨rd, wr, sw1, h1, h2, h3, hpq _ _ _ h4⟩
theorem FpP.ret {a : α} {P : α -> St -> List Nat -> Prop} (h : P a st sw) : FpP D N (Ev.ret a) st sw P := by
 intro b st' hr
 simp only [Ev.run, Option.some.injEq, Prod.mk.injEq] at hr
 obtain ⟨rfl, rfl⟩ := hr
 exact ⟨[], [], sw, rfl, by simp, by simp, h⟩
theorem FpP.fail {P : α -> St -> List Nat -> Prop} : FpP D N (Ev.fail : Ev α) st sw P := by
 intro b st' hr; cases hr
theorem FpP.get {t : Nat} {P : (AV × Nat) -> St -> List Nat -> Prop} (hD : D t) (hN : t < N) (h : P (st.s t, st.ep t) st sw) : FpP D N (b52 t) st sw P := by
 intro b st' hr
 rw [a2m] at hr
 simp only [Option.some.injEq, Prod.mk.injEq] at hr
 obtain ⟨rfl, rfl⟩ := hr
 exact ⟨[t], [], sw, by simp [b52, Ev.runF, hN], by simpa using hD, by simp, h⟩
theorem FpP.getv {t : Nat} {P : AV -> St -> List Nat -> Prop} (hN : ¬ t < N) (hs : t ∈ sw) (h : P (st.s t) st sw) : FpP D N (c5w t) st sw P := by
 intro b st' hr
 rw [a6q] at hr
 simp only [Option.some.injEq, Prod.mk.injEq] at hr
 obtain ⟨rfl, rfl⟩ := hr
 exact ⟨[], [], sw, by simp [c5w, Ev.runF, hN, hs], by simp, by simp, h⟩
theorem FpP.put {t : Nat} {v : AV} {P : Unit -> St -> List Nat -> Prop} (hD : D t) (hN : t < N) (h : P () (st.put t v) sw) : FpP D N (a3z t v) st sw P := by
 intro b st' hr
 rw [a8h] at hr
 simp only [Option.some.injEq, Prod.mk.injEq, true_and] at hr
 subst hr
 exact ⟨[], [t], sw, by simp [a3z, Ev.runF, hN], by simp, by simpa using hD, h⟩
theorem FpP.putN {t : Nat} {v : AV} {P : Unit -> St -> List Nat -> Prop} (hN : ¬ t < N) (h : P () (st.put t v) (t :: sw)) : FpP D N (a3z t v) st sw P := by
 intro b st' hr
 rw [a8h] at hr
 simp only [Option.some.injEq, Prod.mk.injEq, true_and] at hr
 subst hr
 exact ⟨[], [], t :: sw, by simp [a3z, Ev.runF, hN], by simp, by simp, h⟩
theorem FpP.upd {t : Nat} {v : AV} {P : Unit -> St -> List Nat -> Prop} (hD : D t) (hN : t < N) (h : P () (st.set t v) sw) : FpP D N (b6d t v) st sw P := by
 intro b st' hr
 rw [c1z] at hr
 simp only [Option.some.injEq, Prod.mk.injEq, true_and] at hr
 subst hr
 exact ⟨[], [t], sw, by simp [b6d, Ev.runF, hN], by simp, by simpa using hD, h⟩
theorem FpP.kill {t o m : Nat} {q : List Nat} {P : Unit -> St -> List Nat -> Prop} (hD : ∀ u, u < N -> D u) (h : P () (st.kill t q o m) sw) : FpP D N (c8t t q o m) st sw P := by
 intro a st' hr
 rw [c4b] at hr
 simp only [Option.some.injEq, Prod.mk.injEq, true_and] at hr
 subst hr
 exact ⟨List.range N ++ [], List.range N ++ [], sw, rfl, fun u hu => hD u (by simpa using hu), fun u hu => hD u (by simpa using hu), h⟩
theorem FpP.guard {b : Bool} {P : Unit -> St -> List Nat -> Prop} (h : b = true -> P () st sw) : FpP D N (a0t b) st sw P := by
 cases b
 ·exact FpP.fail
 ·exact FpP.ret (h rfl)
theorem FpP.opt {o : Option α} {P : α -> St -> List Nat -> Prop} (h : ∀ a, o = some a -> P a st sw) : FpP D N (a4z o) st sw P := by
 cases o
 ·exact FpP.fail
 ·exact FpP.ret (h _ rfl)
structure XO (D : Nat -> Prop) (N : Nat) (st : St) (x : X) : Prop where
 t : ∀ t, x = .t t -> D t /\ t < N
 b : ∀ u, a3r (rdv st x) = some u -> D u /\ u < N
theorem FpP.read {x : X} {P : (AV × Nat) -> St -> List Nat -> Prop} (hx : XO D N st x) (h : P (rdv st x, rde st x) st sw) : FpP D N (a3a x) st sw P := by
 cases x with
 | t t => exact FpP.get (hx.t t rfl).1 (hx.t t rfl).2 h
 | _ => exact FpP.ret h
theorem FpP.tmp {x : X} {P : Nat -> St -> List Nat -> Prop} (h : ∀ t, x = .t t -> P t st sw) : FpP D N (b7z x) st sw P := by
 cases x with
 | t t => exact FpP.ret (h t rfl)
 | _ => exact FpP.fail
theorem FpP.setD {d : Option Nat} {v : AV} {P : Unit -> St -> List Nat -> Prop} (hd : ∀ t, d = some t -> D t /\ t < N) (h : ∀ t, d = some t -> P () (st.put t v) sw) : FpP D N (setD d v) st sw P := by
 cases d with
 | none => exact FpP.fail
 | some t => exact FpP.put (hd t rfl).1 (hd t rfl).2 (h t rfl)
theorem FpP.thru {d : Option Nat} {v : AV} {M : Nat} {P : Unit -> St -> List Nat -> Prop} (hM : N <= M) (hd : ∀ t, d = some t -> D t /\ t < N) (h : ∀ st' sw', P () st' sw') : FpP D N (a42 M d v) st sw P :=
 FpP.bindM (FpP.putN (Nat.not_lt.2 hM) (FpP.bindM (FpP.putN (Nat.not_lt.2 hM) (FpP.setD hd fun _ _ => h _ _))))
end
abbrev tt {α : Type} : α -> St -> List Nat -> Prop := fun _ _ _ => True
section
variable {D : Nat -> Prop} {N : Nat} {st : St} {sw : List Nat} {d : Option Nat} {x y : X} {G : GG}
abbrev DD (D : Nat -> Prop) (N : Nat) (d : Option Nat) : Prop := ∀ t, d = some t -> D t /\ t < N
theorem e6j (hx : XO D N st x) (hd : DD D N d) : FpP D N (mvE x d) st sw tt := by
 refine FpP.bindM (FpP.read hx ?_)
 cases hv : rdv st x <;> simp only
 case own => cases x <;> exact FpP.setD hd fun _ _ => trivial
 case var => exact FpP.bindM (FpP.tmp fun t ht => FpP.setD hd fun _ _ => trivial)
 case dead => exact FpP.fail
 all_goals (split <;> first | exact FpP.setD hd fun _ _ => trivial | exact FpP.bindM (FpP.tmp fun t ht => FpP.bindM (FpP.upd (hx.t t ht).1 (hx.t t ht).2 (FpP.setD hd fun _ _ => trivial))))
theorem d6t (hx : XO D N st x) (hd : DD D N d) : FpP D N (e0k N x d) st sw tt := by
 have tail : ∀ v : AV, FpP D N (b06 N d x v) st sw tt := by
  intro v
  unfold b06
  cases x with
  | t t => simp only; split; exact FpP.setD hd fun _ _ => trivial; exact FpP.bindM (FpP.put (hx.t t rfl).1 (hx.t t rfl).2 (FpP.thru (Nat.le_refl _) hd fun _ _ => trivial))
  | _ => simp only; split; exact FpP.setD hd fun _ _ => trivial; exact FpP.thru (Nat.le_refl _) hd fun _ _ => trivial
 refine FpP.bindM (FpP.read hx ?_)
 cases hv : rdv st x <;> simp only
 case dead => exact FpP.fail
 case bor t q lo n e =>
  have hb := hx.b t (by rw [hv]; rfl)
  refine FpP.bindM (FpP.get hb.1 hb.2 (FpP.bindM (FpP.guard fun _ => FpP.bindM (FpP.opt fun k hk => ?_))))
  cases k <;> simp only <;> try exact FpP.fail
  refine FpP.bindM (FpP.guard fun _ => ?_)
  split
  ·exact FpP.bindM (FpP.put hb.1 hb.2 (FpP.thru (Nat.le_refl _) hd fun _ _ => trivial))
  ·exact FpP.bindM (FpP.upd hb.1 hb.2 (FpP.setD hd fun _ _ => trivial))
 all_goals exact tail _
theorem b4s {P : Value -> St -> List Nat -> Prop} (hx : XO D N st x) (h : ∀ v, P v st sw) : FpP D N (c2d x) st sw P := by
 refine FpP.bindM (FpP.read hx ?_)
 cases hv : rdv st x <;> simp only <;> first | exact FpP.ret (h _) | exact FpP.fail
theorem c7j {P : Int -> St -> List Nat -> Prop} (hx : XO D N st x) (h : ∀ v, P v st sw) : FpP D N (c8s x) st sw P := by
 refine FpP.bindM (b4s hx fun v => ?_)
 cases v <;> simp only <;> first | exact FpP.ret (h _) | exact FpP.fail
theorem a82 {x : Option X} {z : Int} {P : Int -> St -> List Nat -> Prop} (hx : ∀ y, x = some y -> XO D N st y) (h : ∀ v, P v st sw) : FpP D N (a38 x z) st sw P := by
 cases x with
 | none => exact FpP.ret (h _)
 | some x => exact c7j (hx x rfl) h
theorem d1d {P : (Nat × List Nat × Nat × Nat) -> St -> List Nat -> Prop} (hx : XO D N st x) (h : ∀ t q lo n, D t -> t < N -> P (t, q, lo, n) st sw) : FpP D N (a80 x) st sw P := by
 refine FpP.bindM (FpP.read hx ?_)
 cases hv : rdv st x <;> simp only <;> try exact FpP.fail
 ·exact FpP.bindM (FpP.tmp fun t ht => FpP.ret (h _ _ _ _ (hx.t t ht).1 (hx.t t ht).2))
 ·rename_i t q lo n e
  have hb := hx.b t (by rw [hv]; rfl)
  exact FpP.bindM (FpP.get hb.1 hb.2 (FpP.bindM (FpP.guard fun _ => FpP.ret (h _ _ _ _ hb.1 hb.2))))
theorem e6l {P : (Nat × List Nat × Nat) -> St -> List Nat -> Prop} (hx : XO D N st x) (h : ∀ t q o, D t -> t < N -> P (t, q, o) st sw) : FpP D N (c5d x) st sw P := by
 refine FpP.bindM (FpP.read hx ?_)
 cases hv : rdv st x <;> simp only <;> try exact FpP.fail
 ·exact FpP.bindM (FpP.tmp fun t ht => FpP.ret (h _ _ _ (hx.t t ht).1 (hx.t t ht).2))
 ·rename_i t q lo e
  have hb := hx.b t (by rw [hv]; rfl)
  exact FpP.bindM (FpP.get hb.1 hb.2 (FpP.bindM (FpP.guard fun _ => FpP.ret (h _ _ _ hb.1 hb.2))))
theorem c1l {P : (Nat × List Nat × Nat × AV × Nat × List AV) -> St -> List Nat -> Prop} (hx : XO D N st x) (h : ∀ t q o v e ks, D t -> t < N -> P (t, q, o, v, e, ks) st sw) : FpP D N (c9v x) st sw P :=
 FpP.bindM (e6l hx fun t q o hD hN => FpP.bindM (FpP.get hD hN (FpP.bindM (FpP.opt fun ks _ => FpP.bindM (FpP.guard fun _ => FpP.ret (h _ _ _ _ _ _ hD hN))))))
theorem d4t {t : Nat} {q : List Nat} {P : AV -> St -> List Nat -> Prop} (hD : D t) (hN : t < N) (h : ∀ k, P k st sw) : FpP D N (d12 t q) st sw P :=
 FpP.bindM (FpP.get hD hN (FpP.opt fun _ _ => h _))
theorem d8g {s : Option Nat} (hx : XO D N st x) (hd : DD D N d) : FpP D N (c3p d s x) st sw tt := by
 refine FpP.bindM (c1l hx fun t q o v e ks hD hN => ?_)
 cases s with
 | none =>
  refine FpP.bindM (FpP.opt fun k _ => ?_)
  cases k <;> simp only [b4t] <;> first | exact FpP.setD hd fun _ _ => trivial | exact FpP.bindM (FpP.guard fun _ => FpP.setD hd fun _ _ => trivial)
 | some s =>
  refine FpP.bindM (FpP.guard fun _ => ?_)
  split
  ·exact FpP.setD hd fun _ _ => trivial
  ·exact FpP.bindM (FpP.upd hD hN (FpP.setD hd fun _ _ => trivial))
end
end Go.Ideal
end
section
namespace Go.Ideal
def BLe (N : Nat) (st st' : St) : Prop := ∀ t, t < N -> a3r (st'.s t) = none \/ a3r (st'.s t) = a3r (st.s t)
theorem BLe.refl {N : Nat} (st : St) : BLe N st st := fun t _ => .inr rfl
theorem BLe.trans {N : Nat} {a b c : St} (h : BLe N a b) (h2 : BLe N b c) : BLe N a c := fun t ht => by
 rcases h2 t ht with h3 | h3
 ·exact .inl h3
 ·rcases h t ht with h4 | h4
  ·exact .inl (h3.trans h4)
  ·exact .inr (h3.trans h4)
theorem BLe.put {N : Nat} {st : St} {t : Nat} {v : AV} (h : a3r v = none) : BLe N st (st.put t v) := fun u _ => by
 simp only [St.put_s]; split
 ·exact .inl h
 ·exact .inr rfl
theorem BLe.putN {N : Nat} {st : St} {t : Nat} {v : AV} (h : ¬ t < N) : BLe N st (st.put t v) := fun u hu => by
 simp only [St.put_s]; rw [if_neg (by omega)]; exact .inr rfl
theorem BLe.set {N : Nat} {st : St} {t : Nat} {v : AV} (h : a3r v = none) : BLe N st (st.set t v) := fun u _ => by
 simp only [St.set_s]; split
 ·exact .inl h
 ·exact .inr rfl
theorem XO.le {D : Nat -> Prop} {N : Nat} {st st' : St} {x : X} (h : XO D N st x) (hl : BLe N st st') : XO D N st' x where
 t := h.t
 b u hu := by
  cases x with
  | t t =>
   have ht := h.t t rfl
   simp only [rdv] at hu
   rcases hl t ht.2 with h1 | h1
   ·rw [h1] at hu; cases hu
   ·exact h.b u (by simp only [rdv]; rw [<- h1]; exact hu)
  | _ => cases hu
theorem a73 {v k : AV} {q : List Nat} {k' : AV} (hk : a0h v q = some k) (h : a3r k' = none) : a3r (a0y v q k') = none := by
 cases q with
 | nil => exact h
 | cons i q =>
  cases v <;> simp only [a0h, a0w, reduceCtorEq] at hk
  ·simp only [a0y, a0w]; split <;> rfl
  ·simp only [a0y, a0w]; split <;> rfl
section
variable {D : Nat -> Prop} {N : Nat} {st : St} {sw : List Nat} {d : Option Nat} {x y : X} {G : GG}
theorem c5t {P : Unit -> St -> List Nat -> Prop} (hx : XO D N st x) (h : ∀ st' sw', BLe N st st' -> (∀ t ∈ sw, t ∈ sw') -> N ∈ sw' -> (∀ t, N < t -> st'.s t = st.s t) -> P () st' sw') : FpP D N (a45 x N) st sw P := by
 have hN : ¬ N < N := Nat.lt_irrefl _
 have one : ∀ {v : AV}, a3r (AV.dead) = none -> FpP D N (a3z N v) st sw P := fun _ => FpP.putN hN (h _ _ (BLe.putN hN) (fun t ht => by simp [ht]) (by simp) (fun t ht => by simp [Nat.ne_of_gt ht]))
 have two : ∀ {v : AV} (t : Nat), x = .t t -> FpP D N (do a3z t .dead; a3z N v) st sw P := fun t ht => FpP.bindM (FpP.put (hx.t t ht).1 (hx.t t ht).2 (FpP.putN hN (h _ _ ((BLe.put rfl).trans (BLe.putN hN)) (fun t ht => by simp [ht]) (by simp) (fun u hu => by
  have := (hx.t t ht).2
  simp [Nat.ne_of_gt hu, show u ≠ t by omega]))))
 refine FpP.bindM (FpP.read hx ?_)
 cases hv : rdv st x <;> simp only
 case dead => exact FpP.fail
 case tup => exact FpP.fail
 case ref => exact FpP.fail
 case bor t q lo n e =>
  have hb := hx.b t (by rw [hv]; rfl)
  refine FpP.bindM (FpP.get hb.1 hb.2 (FpP.bindM (FpP.guard fun _ => FpP.bindM (FpP.opt fun k hk => ?_))))
  cases k <;> simp only <;> try exact FpP.fail
  refine FpP.bindM (FpP.guard fun _ => FpP.bindM (FpP.upd hb.1 hb.2 (FpP.putN hN (h _ _ ((BLe.set (a73 hk rfl)).trans (BLe.putN hN)) (fun t ht => by simp [ht]) (by simp) (fun u hu => by
   have := hb.2
   simp [Nat.ne_of_gt hu, show u ≠ t by omega])))))
 case agg => exact FpP.bindM (FpP.tmp fun t ht => two t ht)
 case own =>
  cases x with
  | t t => exact two t rfl
  | _ => exact one rfl
 case var => exact FpP.bindM (FpP.tmp fun t ht => two t ht)
 case ifc => exact FpP.bindM (FpP.tmp fun t ht => two t ht)
 case mp => exact FpP.bindM (FpP.tmp fun t ht => two t ht)
 case fn => exact FpP.bindM (FpP.guard fun _ => one rfl)
 all_goals exact FpP.bindM (FpP.guard fun _ => one rfl)
theorem c3j {j : Nat} {P : List AV -> St -> List Nat -> Prop} (hN : ¬ j < N) (hs : j ∈ sw) (h : ∀ ks, P ks st sw) : FpP D N (c4o j) st sw P := by
 refine FpP.bindM (FpP.getv hN hs ?_)
 cases st.s j <;> simp only <;> first | exact FpP.ret (h _) | exact FpP.fail
theorem e6d {T : TypeId} {sz : Nat} (hx : XO D N st x) (hd : DD D N d) : FpP D N (a10 G N d (.box T sz x)) st sw tt := by
 have hN : ¬ N < N := Nat.lt_irrefl _
 exact FpP.bindM (c5t hx fun st' sw' _ _ hs _ => FpP.bindM (c3j hN hs fun ks => FpP.bindM (FpP.guard fun _ => FpP.thru (Nat.le_refl _) hd fun _ _ => trivial)))
theorem c1k : ∀ (l : List (Nat × Nat × X)) {st : St} {sw : List Nat} {P : Unit -> St -> List Nat -> Prop}, (∀ p ∈ l, XO D N st p.2.2) -> (N + 1) ∈ sw -> (∀ st' sw', (N + 1) ∈ sw' -> P () st' sw') -> FpP D N (a2o N l) st sw P
 | [], st, sw, P, _, hs, h => FpP.ret (h _ _ hs)
 | (off, sz, x) :: rest, st, sw, P, hx, hs, h => by
  have hN : ¬ N < N := Nat.lt_irrefl _
  have hN1 : ¬ N + 1 < N := by omega
  refine FpP.bindM (c5t (hx (off, sz, x) (by simp)) fun st1 sw1 hb hsw hNs _ => FpP.bindM (c3j hN hNs fun ks => FpP.bindM (c3j hN1 (hsw _ hs) fun zs => FpP.bindM (FpP.guard fun _ => FpP.bindM (FpP.putN hN (FpP.bindM (FpP.putN hN1 ?_)))))))
  exact c1k rest (fun p hp => (hx p (by simp [hp])).le (hb.trans ((BLe.put rfl).trans (BLe.putN hN1)))) (by simp) h
theorem d4m {T : TypeId} {zs : List AV} {parts : List (Nat × Nat × Nat × X)} (hx : ∀ p ∈ parts, XO D N st p.2.2.2) (hd : DD D N d) : FpP D N (a10 G N d (.build T zs parts)) st sw tt := by
 have hN1 : ¬ N + 1 < N := by omega
 refine FpP.bindM (FpP.putN hN1 (FpP.bindM (c1k _ (fun p hp => ?_) (by simp) fun st' sw' hs => FpP.bindM (c3j hN1 hs fun ks => FpP.bindM (FpP.putN hN1 (FpP.setD hd fun _ _ => trivial))))))
 obtain ⟨r, hr, rfl⟩ := List.mem_map.1 hp
 exact (hx r hr).le (BLe.putN hN1)
theorem d1e {T e : TypeId} {sz len : Nat} {zs : List AV} {parts : List (Nat × X)} (hx : ∀ p ∈ parts, XO D N st p.2) (hd : DD D N d) : FpP D N (a10 G N d (.bslice T e sz len zs parts)) st sw tt := by
 have hN1 : ¬ N + 1 < N := by omega
 refine FpP.bindM (FpP.putN hN1 (FpP.bindM (c1k _ (fun p hp => ?_) (by simp) fun st' sw' hs => FpP.bindM (c3j hN1 hs fun ks => FpP.thru (by omega) hd fun _ _ => trivial))))
 obtain ⟨r, hr, rfl⟩ := List.mem_map.1 hp
 exact (hx r hr).le (BLe.putN hN1)
theorem d4w {T : TypeId} {s : Nat} (hx : XO D N st x) (hy : XO D N st y) (hd : d = none) (hk : ∀ r, giv st N y (rdv st y) = some r -> a0z r.2 = true \/ ∀ t, t < N -> D t) : FpP D N (a10 G N d (.store T s x y)) st sw tt := by
 have hN : ¬ N < N := Nat.lt_irrefl _
 refine FpP.bindM (FpP.guard fun _ => ?_)
 have hg : FpP D N (a45 y N) st sw (fun _ st' sw' => (BLe N st st' /\ N ∈ sw') /\ ∃ r, giv st N y (rdv st y) = some r /\ st'.s N = .agg r.2) := by
  intro a st' hr
  obtain ⟨rd, wr, sw', h1, h2, h3, h4⟩ := c5t (P := fun _ st' sw' => BLe N st st' /\ N ∈ sw') (sw := sw) hy (fun st' sw' h1 _ h2 _ => ⟨h1, h2⟩) a st' hr
  refine ⟨rd, wr, sw', h1, h2, h3, h4, ?_⟩
  rw [b5b] at hr
  cases hgv : giv st N y (rdv st y) with
  | none => rw [hgv] at hr; cases hr
  | some r =>
   rw [hgv] at hr
   simp only [Option.map, Option.some.injEq, Prod.mk.injEq, true_and] at hr
   exact ⟨r, rfl, by rw [<- hr]; simp⟩
 refine FpP.bindM (FpP.mono hg fun a st' sw' ⟨⟨hb, hs⟩, r, hr, hsN⟩ => ?_)
 have hno := hk r hr
 refine FpP.bindM (FpP.mono (c1l (P := fun p st2 sw2 => (D p.1 /\ p.1 < N) /\ st2 = st' /\ sw2 = sw') (hx.le hb) fun t q o v e ks hD htN => ⟨⟨hD, htN⟩, rfl, rfl⟩) ?_)
 rintro ⟨t, q, o, v, e, ks⟩ st2 sw2 ⟨⟨hD, htN⟩, rfl, rfl⟩
 refine FpP.bindM (FpP.mono (P := fun ks2 st3 sw3 => ks2 = r.2 /\ st3 = st2 /\ sw3 = sw2) (FpP.bindM (FpP.getv hN hs (by rw [hsN]; exact FpP.ret ⟨rfl, rfl, rfl⟩))) ?_)
 rintro cs st3 sw3 ⟨rfl, rfl, rfl⟩
 refine FpP.bindM (FpP.guard fun _ => FpP.bindM (FpP.putN hN ?_))
 rcases hno with hno | hall
 ·rw [if_pos hno]
  exact FpP.upd hD htN trivial
 ·split
  ·exact FpP.upd hD htN trivial
  ·exact FpP.bindM (FpP.kill hall (FpP.upd hD htN trivial))
theorem d4s (hx : XO D N st x) (hd : DD D N d) : FpP D N (a10 G N d (.nilck x)) st sw tt := by
 refine FpP.bindM (FpP.read hx ?_)
 cases hv : rdv st x <;> simp only <;> first | exact FpP.setD hd fun _ _ => trivial | exact FpP.bindM (c1l hx fun _ _ _ _ _ _ _ _ => FpP.setD hd fun _ _ => trivial)
theorem d4o {T : TypeId} {off f : Nat} (hx : XO D N st x) (hd : DD D N d) : FpP D N (a10 G N d (.faddr T off x f)) st sw tt := by
 refine FpP.bindM (FpP.read hx ?_)
 cases hv : rdv st x <;> simp only <;> first | exact FpP.setD hd fun _ _ => trivial | exact FpP.bindM (c1l hx fun _ _ _ _ _ _ _ _ => FpP.setD hd fun _ _ => trivial)
theorem d1f {T : TypeId} {s : Option Nat} (hx : XO D N st x) (hd : DD D N d) : FpP D N (a10 G N d (.load T s x)) st sw tt := by
 refine FpP.bindM (FpP.read hx ?_)
 simp only
 split
 ·exact FpP.bindM (FpP.opt fun _ _ => FpP.setD hd fun _ _ => trivial)
 ·exact FpP.bindM (FpP.opt fun _ _ => FpP.bindM (FpP.guard fun _ => FpP.setD hd fun _ _ => trivial))
 ·exact FpP.bindM (FpP.guard fun _ => FpP.setD hd fun _ _ => trivial)
 ·exact d8g hx hd
theorem d4q {T : TypeId} {sz : Nat} {i : X} (hx : XO D N st x) (hi : XO D N st i) (hd : DD D N d) : FpP D N (a10 G N d (.iaddr T sz x i)) st sw tt := by
 refine FpP.bindM (c7j hi fun n => FpP.bindM (FpP.guard fun _ => FpP.bindM (FpP.read hx ?_)))
 have rest : FpP D N (do
   let (t, q, lo, m) <- a80 x
   a0t (decide (n < (m : Int)))
   let v <- b52 t
   let k <- a4z (a0h v.1 q)
   match k with
   | .own sz' n0 _ => do
    a0t (sz' == sz && decide (lo + m <= n0))
    setD d (.ref t q ((lo + n.toNat) * sz) v.2)
   | _ => .fail) st sw tt := by
  refine FpP.bindM (d1d hx fun t q lo m hD hN => FpP.bindM (FpP.guard fun _ => FpP.bindM (FpP.get hD hN (FpP.bindM (FpP.opt fun k _ => ?_)))))
  cases k <;> simp only <;> first | exact FpP.fail | exact FpP.bindM (FpP.guard fun _ => FpP.setD hd fun _ _ => trivial)
 cases hv : rdv st x <;> simp only <;> first | exact FpP.bindM (FpP.guard fun _ => FpP.setD hd fun _ _ => trivial) | exact rest
theorem d4r {T : TypeId} {b : Bool} (hx : XO D N st x) (hd : DD D N d) : FpP D N (a10 G N d (.len T b x)) st sw tt := by
 cases b with
 | true =>
  refine FpP.bindM (b4s hx fun v => ?_)
  cases v <;> simp only <;> first | exact FpP.fail | exact FpP.setD hd fun _ _ => trivial
 | false =>
  refine FpP.bindM (FpP.read hx ?_)
  have rest : FpP D N (do
   let (t, q, lo, n) <- a80 x
   let k <- d12 t q
   match k with
   | .own _ n0 _ => do
    a0t (decide (lo + n <= n0))
    setD d (.lit (.int .i64 n))
   | _ => .fail) st sw tt := by
   refine FpP.bindM (d1d hx fun t q lo m hD hN => FpP.bindM (d4t hD hN fun k => ?_))
   cases k <;> simp only <;> first | exact FpP.fail | exact FpP.bindM (FpP.guard fun _ => FpP.setD hd fun _ _ => trivial)
  cases hv : rdv st x <;> simp only <;> first | exact FpP.setD hd fun _ _ => trivial | exact rest
theorem e6c {b : BinOp} {T kd : Nat} {yT : TypeId} (hx : XO D N st x) (hy : XO D N st y) (hd : DD D N d) : FpP D N (a10 G N d (.bin b T kd x y yT)) st sw tt :=
 FpP.bindM (FpP.read hx (FpP.bindM (FpP.read hy (FpP.bindM (FpP.opt fun _ _ => FpP.setD hd fun _ _ => trivial)))))
theorem f71 {u : UnOp} {T : TypeId} (hx : XO D N st x) (hd : DD D N d) : FpP D N (a10 G N d (.un u T x)) st sw tt :=
 FpP.bindM (b4s hx fun _ => FpP.bindM (FpP.opt fun _ _ => FpP.setD hd fun _ _ => trivial))
theorem d8h {c : X} (hc : XO D N st c) (hx : XO D N st x) (hy : XO D N st y) (hd : DD D N d) : FpP D N (a10 G N d (.pick c x y)) st sw tt :=
 FpP.bindM (b4s hc fun _ => FpP.bindM (FpP.read hx (FpP.bindM (FpP.read hy (FpP.bindM (FpP.opt fun _ _ => FpP.setD hd fun _ _ => trivial))))))
theorem d4l {T : TypeId} {zs : List AV} (hd : DD D N d) : FpP D N (a10 G N d (.alloc T zs)) st sw tt := FpP.thru (Nat.le_refl _) hd fun _ _ => trivial
theorem d4n {s t : TypeId} {k : IntKind} (hx : XO D N st x) (hd : DD D N d) : FpP D N (a10 G N d (.conv s t (.int k) x)) st sw tt := by
 refine FpP.bindM (b4s hx fun v => ?_)
 cases v <;> simp only <;> first | exact FpP.fail | exact FpP.setD hd fun _ _ => trivial
theorem e6h {T : TypeId} (hx : XO D N st x) (hd : DD D N d) : FpP D N (a10 G N d (.mki T x)) st sw tt := by
 refine FpP.bindM (FpP.read hx ?_)
 cases hv : rdv st x <;> simp only <;> first | exact FpP.fail | exact FpP.setD hd fun _ _ => trivial | exact FpP.bindM (FpP.tmp fun t ht => FpP.bindM (FpP.upd (hx.t t ht).1 (hx.t t ht).2 (FpP.setD hd fun _ _ => trivial)))
theorem e6i {T e : TypeId} {sz by_ : Nat} {zs : List AV} (hx : XO D N st x) (hy : XO D N st y) (hd : DD D N d) : FpP D N (a10 G N d (.mks T e sz by_ zs x y)) st sw tt :=
 FpP.bindM (c7j hx fun _ => FpP.bindM (c7j hy fun _ => FpP.bindM (FpP.guard fun _ => FpP.thru (Nat.le_refl _) hd fun _ _ => trivial)))
theorem e6f {i : Nat} (hx : XO D N st x) (hd : DD D N d) : FpP D N (a10 G N d (.ext x i)) st sw tt := by
 refine FpP.bindM (FpP.read hx ?_)
 cases hv : rdv st x <;> simp only <;> try exact FpP.fail
 refine FpP.bindM (FpP.opt fun k _ => ?_)
 split
 ·exact FpP.setD hd fun _ _ => trivial
 ·exact FpP.bindM (FpP.tmp fun t ht => FpP.bindM (FpP.put (hx.t t ht).1 (hx.t t ht).2 (FpP.thru (Nat.le_refl _) hd fun _ _ => trivial)))
theorem e6g {T off f : Nat} (hx : XO D N st x) (hd : DD D N d) : FpP D N (a10 G N d (.fld T off x f)) st sw tt := by
 refine FpP.bindM (FpP.read hx ?_)
 cases hv : rdv st x <;> simp only <;> try exact FpP.fail
 exact FpP.bindM (FpP.opt fun k _ => FpP.bindM (FpP.guard fun _ => FpP.setD hd fun _ _ => trivial))
theorem e6n {xT T : TypeId} {zs : List AV} (hx : XO D N st x) (hd : DD D N d) : FpP D N (a10 G N d (.tas x xT T zs)) st sw tt := by
 refine FpP.bindM (FpP.read hx ?_)
 simp only
 split
 ·exact FpP.setD hd fun _ _ => trivial
 ·exact FpP.setD hd fun _ _ => trivial
 ·exact FpP.bindM (FpP.guard fun _ => FpP.setD hd fun _ _ => trivial)
 ·exact FpP.fail
theorem f70 {mx : Bool} {ts : List TypeId} (hx : XO D N st x) (hy : XO D N st y) (hd : DD D N d) : FpP D N (a10 G N d (.mm mx ts [x, y])) st sw tt := by
 refine FpP.bindM (b4s hx fun u => FpP.bindM (b4s hy fun v => ?_))
 split
 ·exact FpP.bindM (FpP.guard fun _ => FpP.setD hd fun _ _ => trivial)
 ·exact FpP.fail
theorem e6e {b : BinOp} {T tp te : TypeId} {yT : TypeId} (hx : XO D N st x) (hy : XO D N st y) (hd : DD D N d) : FpP D N (a10 G N d (.eqs b T tp te x y yT)) st sw tt := by
 refine FpP.bindM (b4s hx fun u => FpP.bindM (b4s hy fun v => ?_))
 split
 ·refine FpP.bindM (FpP.guard fun _ => ?_)
  split <;> first | exact FpP.setD hd fun _ _ => trivial | exact FpP.fail
 ·exact FpP.fail
end
end Go.Ideal
end
section
namespace Go.Ideal
open Classical
section
variable {D : Nat -> Prop} {N : Nat} {st : St} {sw : List Nat} {d : Option Nat} {x y : X} {G : GG}
theorem d4v {T : TypeId} {sz : Nat} {lo hi : Option X} (hx : XO D N st x) (hlo : ∀ y, lo = some y -> XO D N st y) (hhi : ∀ y, hi = some y -> XO D N st y) (hd : DD D N d) : FpP D N (a10 G N d (.slice T sz x lo hi none)) st sw tt := by
 refine FpP.bindM (FpP.read hx ?_)
 have rest : FpP D N (do
   a0t (decide (0 < sz))
   let (t, q, lo0, n) <- a80 x
   let v <- b52 t
   let k <- a4z (a0h v.1 q)
   match k with
   | .own sz' n0 _ => do
    let l <- a38 lo 0
    let h <- a38 hi n
    a0t (decide (0 <= l) && decide (l <= h) && decide (h <= (n : Int)) && decide (lo0 + n <= n0) && sz' == sz && (lo0 == 0 || l == 0 || decide (l < h)))
    match (none : Option X) with
    | none => setD d (.bor t q (lo0 + l.toNat) (h - l).toNat v.2)
    | some m => do
     let m <- c8s m
     a0t (l == 0 && h == 0 && m == 0 && hi.isSome)
     a42 N d (.own sz 0 [])
   | _ => .fail) st sw tt := by
  refine FpP.bindM (FpP.guard fun _ => FpP.bindM (d1d hx fun t q lo0 n hD hN => FpP.bindM (FpP.get hD hN (FpP.bindM (FpP.opt fun k _ => ?_)))))
  cases k <;> simp only <;> try exact FpP.fail
  exact FpP.bindM (a82 hlo fun _ => FpP.bindM (a82 hhi fun _ => FpP.bindM (FpP.guard fun _ => FpP.setD hd fun _ _ => trivial)))
 cases hv : rdv st x
 case lit v =>
  cases v <;> simp only <;> try exact rest
  exact FpP.bindM (a82 hlo fun _ => FpP.bindM (a82 hhi fun _ => FpP.bindM (FpP.guard fun _ => FpP.setD hd fun _ _ => trivial)))
 case sl => exact FpP.bindM (FpP.guard fun _ => FpP.bindM (a82 hlo fun _ => FpP.bindM (a82 hhi fun _ => FpP.bindM (FpP.guard fun _ => FpP.setD hd fun _ _ => trivial))))
 all_goals exact rest
theorem d8i {P : Unit -> St -> List Nat -> Prop} (hx : XO D N st x) (h : ∀ st' sw', BLe N st st' -> N ∈ sw' -> P () st' sw') : FpP D N (c63 x N) st sw P := by
 have hN : ¬ N < N := Nat.lt_irrefl _
 refine FpP.bindM (FpP.read hx ?_)
 cases hv : rdv st x <;> simp only <;> try exact FpP.fail
 ·cases x with
  | t t => exact FpP.bindM (FpP.put (hx.t t rfl).1 (hx.t t rfl).2 (FpP.putN hN (h _ _ ((BLe.put rfl).trans (BLe.putN hN)) (by simp))))
  | _ => exact FpP.putN hN (h _ _ (BLe.putN hN) (by simp))
 ·rename_i t q lo n e
  have hb := hx.b t (by rw [hv]; rfl)
  refine FpP.bindM (FpP.get hb.1 hb.2 (FpP.bindM (FpP.guard fun _ => FpP.bindM (FpP.opt fun k hk => ?_))))
  cases k <;> simp only <;> try exact FpP.fail
  exact FpP.bindM (FpP.guard fun _ => FpP.bindM (FpP.upd hb.1 hb.2 (FpP.putN hN (h _ _ ((BLe.set (a73 hk rfl)).trans (BLe.putN hN)) (by simp)))))
theorem e6m {P : Unit -> St -> List Nat -> Prop} (hx : XO D N st x) (h : ∀ st' sw', (∀ t ∈ sw, t ∈ sw') -> N + 1 ∈ sw' -> P () st' sw') : FpP D N (e3i x N) st sw P := by
 have hN : ¬ N + 1 < N := by omega
 refine FpP.bindM (FpP.read hx ?_)
 cases hv : rdv st x <;> simp only <;> try exact FpP.fail
 ·exact FpP.putN hN (h _ _ (fun t ht => by simp [ht]) (by simp))
 ·cases x with
  | t t => exact FpP.bindM (FpP.put (hx.t t rfl).1 (hx.t t rfl).2 (FpP.putN hN (h _ _ (fun t ht => by simp [ht]) (by simp))))
  | _ => exact FpP.putN hN (h _ _ (fun t ht => by simp [ht]) (by simp))
 ·rename_i t q lo n e
  have hb := hx.b t (by rw [hv]; rfl)
  refine FpP.bindM (FpP.get hb.1 hb.2 (FpP.bindM (FpP.guard fun _ => FpP.bindM (FpP.opt fun k hk => ?_))))
  cases k <;> simp only <;> try exact FpP.fail
  exact FpP.bindM (FpP.guard fun _ => FpP.bindM (FpP.upd hb.1 hb.2 (FpP.putN hN (h _ _ (fun t ht => by simp [ht]) (by simp)))))
theorem e6b {T e : TypeId} {sz by_ : Nat} (hx : XO D N st x) (hy : XO D N st y) (hd : DD D N d) : FpP D N (a10 G N d (.app T e sz by_ x y)) st sw tt := by
 have hN : ¬ N < N := Nat.lt_irrefl _
 have hN1 : ¬ N + 1 < N := by omega
 refine FpP.bindM (d8i hx fun st1 sw1 hb hs => FpP.bindM (e6m (hy.le hb) fun st2 sw2 hsw hs1 => FpP.bindM (FpP.getv hN (hsw _ hs) (FpP.bindM (FpP.getv hN1 hs1 ?_)))))
 split
 ·exact FpP.bindM (FpP.guard fun _ => FpP.bindM (FpP.putN hN1 (FpP.thru (Nat.le_refl _) hd fun _ _ => trivial)))
 ·exact FpP.bindM (FpP.guard fun _ => FpP.bindM (FpP.putN hN1 (FpP.thru (Nat.le_refl _) hd fun _ _ => trivial)))
 ·exact FpP.fail
theorem d4p {j : Nat} (hj : N <= j) {P : Unit -> St -> List Nat -> Prop} (hx : XO D N st x) (h : ∀ st' sw', BLe N st st' -> (∀ t ∈ sw, t ∈ sw') -> j ∈ sw' -> P () st' sw') : FpP D N (c5x N x j) st sw P := by
 have hN : ¬ j < N := Nat.not_lt.2 hj
 have one : ∀ {v : AV}, FpP D N (a3z j v) st sw P := FpP.putN hN (h _ _ (BLe.putN hN) (fun t ht => by simp [ht]) (by simp))
 have tail : ∀ v : AV, FpP D N (a4p x j v) st sw P := by
  intro v
  unfold a4p
  cases x with
  | t t =>
   simp only
   split
   ·exact one
   ·exact FpP.bindM (FpP.put (hx.t t rfl).1 (hx.t t rfl).2 (FpP.putN hN (h _ _ ((BLe.put rfl).trans (BLe.putN hN)) (fun t ht => by simp [ht]) (by simp))))
  | _ => exact one
 refine FpP.bindM (FpP.read hx ?_)
 cases hv : rdv st x <;> simp only
 case dead => exact FpP.fail
 case bor t q lo n e =>
  have hb := hx.b t (by rw [hv]; rfl)
  refine FpP.bindM (FpP.get hb.1 hb.2 (FpP.bindM (FpP.guard fun _ => FpP.bindM (FpP.opt fun k hk => ?_))))
  cases k <;> simp only <;> try exact FpP.fail
  exact FpP.bindM (FpP.guard fun _ => FpP.bindM (FpP.upd hb.1 hb.2 (FpP.putN hN (h _ _ ((BLe.set (a73 hk rfl)).trans (BLe.putN hN)) (fun t ht => by simp [ht]) (by simp)))))
 all_goals exact FpP.bindM (FpP.guard fun _ => tail _)
theorem d34 {v : AV} (h : a0v v = false) : a3r (frz v) = none := by
 cases v <;> first | rfl | simp [a0v] at h
theorem d4u {j : Nat} (hj : N <= j) {P : Unit -> St -> List Nat -> Prop} (hx : XO D N st x) (h : ∀ st' sw', BLe N st st' -> (∀ t ∈ sw, t ∈ sw') -> j ∈ sw' -> P () st' sw') : FpP D N (c1w N x j) st sw P := by
 have hN : ¬ j < N := Nat.not_lt.2 hj
 have one : ∀ {v : AV}, FpP D N (a3z j v) st sw P := FpP.putN hN (h _ _ (BLe.putN hN) (fun t ht => by simp [ht]) (by simp))
 have tail : ∀ v : AV, FpP D N (a4c x j v) st sw P := by
  intro v
  unfold a4c
  cases x with
  | t t =>
   simp only
   split
   ·exact one
   ·rename_i hno
    exact FpP.bindM (FpP.upd (hx.t t rfl).1 (hx.t t rfl).2 (FpP.putN hN (h _ _ ((BLe.set (d34 (by simpa using hno))).trans (BLe.putN hN)) (fun t ht => by simp [ht]) (by simp))))
  | _ => exact one
 refine FpP.bindM (FpP.read hx ?_)
 cases hv : rdv st x <;> simp only
 case dead => exact FpP.fail
 case bor t q lo n e =>
  have hb := hx.b t (by rw [hv]; rfl)
  refine FpP.bindM (FpP.get hb.1 hb.2 (FpP.bindM (FpP.guard fun _ => FpP.bindM (FpP.opt fun k hk => ?_))))
  cases k <;> simp only <;> try exact FpP.fail
  exact FpP.bindM (FpP.guard fun _ => FpP.bindM (FpP.upd hb.1 hb.2 (FpP.putN hN (h _ _ ((BLe.set (a73 hk rfl)).trans (BLe.putN hN)) (fun t ht => by simp [ht]) (by simp)))))
 all_goals exact FpP.bindM (FpP.guard fun _ => tail _)
theorem c7i : ∀ (xs : List (Bool × X)) (j : Nat) {st : St} {sw : List Nat} {P : Unit -> St -> List Nat -> Prop}, N <= j -> (∀ p ∈ xs, XO D N st p.2) -> (∀ st' sw', BLe N st st' -> (∀ t ∈ sw, t ∈ sw') -> (∀ i x, xs[i]? = some (true, x) -> j + i ∈ sw') -> P () st' sw') -> FpP D N (a60 N j xs) st sw P
 | [], j, st, sw, P, hj, hx, h => FpP.ret (h _ _ (BLe.refl _) (fun _ h => h) (fun i x hi => by simp at hi))
 | (b, x) :: xs, j, st, sw, P, hj, hx, h => by
  refine FpP.bindM ?_
  have go : ∀ st1 sw1, BLe N st st1 -> (∀ t ∈ sw, t ∈ sw1) -> (b = true -> j ∈ sw1) -> FpP D N (a60 N (j + 1) xs) st1 sw1 P := fun st1 sw1 hb hs hj1 =>
   c7i xs (j + 1) (by omega) (fun p hp => (hx p (by simp [hp])).le hb) fun st2 sw2 hb2 hs2 hi => h _ _ (hb.trans hb2) (fun t ht => hs2 t (hs t ht)) fun i y hy => by
    cases i with
    | zero =>
     simp only [List.getElem?_cons_zero, Option.some.injEq, Prod.mk.injEq] at hy
     exact hs2 _ (hj1 hy.1)
    | succ i => rw [show j + (i + 1) = j + 1 + i by omega]; exact hi i y (by simpa using hy)
  cases b with
  | true => exact d4p hj (hx (true, x) (by simp)) fun st1 sw1 hb hs hj1 => go st1 sw1 hb hs fun _ => hj1
  | false => exact FpP.ret (go st sw (BLe.refl _) (fun _ h => h) fun hc => by cases hc)
theorem c3k : ∀ (xs : List (Bool × X)) (j : Nat) {st : St} {sw : List Nat} {P : Unit -> St -> List Nat -> Prop}, N <= j -> (∀ p ∈ xs, XO D N st p.2) -> (∀ st' sw', (∀ t ∈ sw, t ∈ sw') -> (∀ i x, xs[i]? = some (false, x) -> j + i ∈ sw') -> P () st' sw') -> FpP D N (a4j N j xs) st sw P
 | [], j, st, sw, P, hj, hx, h => FpP.ret (h _ _ (fun _ h => h) (fun i x hi => by simp at hi))
 | (b, x) :: xs, j, st, sw, P, hj, hx, h => by
  refine FpP.bindM ?_
  have go : ∀ st1 sw1, BLe N st st1 -> (∀ t ∈ sw, t ∈ sw1) -> (b = false -> j ∈ sw1) -> FpP D N (a4j N (j + 1) xs) st1 sw1 P := fun st1 sw1 hb hs hj1 =>
   c3k xs (j + 1) (by omega) (fun p hp => (hx p (by simp [hp])).le hb) fun st2 sw2 hs2 hi => h _ _ (fun t ht => hs2 t (hs t ht)) fun i y hy => by
    cases i with
    | zero =>
     simp only [List.getElem?_cons_zero, Option.some.injEq, Prod.mk.injEq] at hy
     exact hs2 _ (hj1 hy.1)
    | succ i => rw [show j + (i + 1) = j + 1 + i by omega]; exact hi i y (by simpa using hy)
  cases b with
  | false => exact d4u hj (hx (false, x) (by simp)) fun st1 sw1 hb hs hj1 => go st1 sw1 hb hs fun _ => hj1
  | true => exact FpP.ret (go st sw (BLe.refl _) (fun _ h => h) fun hc => by cases hc)
end
def b6a : IOp -> Option (List X)
 | .mv x => some [x]
 | .asg x => some [x]
 | .mva x => some [x]
 | .mvf x => some [x]
 | .pick c x y => some [c, x, y]
 | .alloc _ _ => some []
 | .box _ _ x => some [x]
 | .build _ _ parts => some (parts.map fun p => p.2.2.2)
 | .bslice _ _ _ _ _ parts => some (parts.map fun p => p.2)
 | .load _ _ x => some [x]
 | .store _ _ x y => some [x, y]
 | .nilck x => some [x]
 | .bin _ _ _ x y _ => some [x, y]
 | .un _ _ x => some [x]
 | .eqs _ _ _ _ x y _ => some [x, y]
 | .conv _ _ (.int _) x => some [x]
 | .mki _ x => some [x]
 | .mks _ _ _ _ _ x y => some [x, y]
 | .slice _ _ x lo hi none => some (x :: (lo.toList ++ hi.toList))
 | .faddr _ _ x _ => some [x]
 | .iaddr _ _ x i => some [x, i]
 | .ext x _ => some [x]
 | .fld _ _ x _ => some [x]
 | .tas x _ _ _ => some [x]
 | .len _ _ x => some [x]
 | .app _ _ _ _ x y => some [x, y]
 | .mm _ _ [x, y] => some [x, y]
 | _ => none
def e3j (N : Nat) (st : St) : IOp -> Bool
 | .store _ _ _ y => match giv st N y (rdv st y) with
  | some r => a0z r.2
  | none => true
 | _ => true
def d23 (N : Nat) (st : St) : IOp -> Prop
 | .store _ _ _ y => match giv st N y (rdv st y) with
  | some r => a0z r.2 = true
  | none => True
 | _ => True
theorem d98 {N : Nat} {st : St} {i : IOp} (h : e3j N st i = true) : d23 N st i := by
 cases i <;> try trivial
 simp only [e3j, d23] at h ⊢
 split <;> rename_i hh
 ·rw [hh] at h; exact h
 ·trivial
theorem e6k {D : Nat -> Prop} {N : Nat} {st : St} {sw : List Nat} {d : Option Nat} {G : GG} {i : IOp} {xs : List X} (ho : b6a i = some xs) (hx : ∀ x ∈ xs, XO D N st x) (hd : DD D N d) (hs : d23 N st i \/ ∀ t, t < N -> D t) : FpP D N (a10 G N d i) st sw tt := by
 cases i <;> simp only [b6a, Option.some.injEq, reduceCtorEq] at ho
 case mv => subst ho; exact e6j (hx _ (by simp)) hd
 case asg => subst ho; exact d6t (hx _ (by simp)) hd
 case mva => subst ho; exact d6t (hx _ (by simp)) hd
 case mvf => subst ho; exact e6j (hx _ (by simp)) hd
 case pick => subst ho; exact d8h (hx _ (by simp)) (hx _ (by simp)) (hx _ (by simp)) hd
 case alloc => exact d4l hd
 case box => subst ho; exact e6d (hx _ (by simp)) hd
 case build => subst ho; exact d4m (fun p hp => hx _ (List.mem_map.2 ⟨p, hp, rfl⟩)) hd
 case bslice => subst ho; exact d1e (fun p hp => hx _ (List.mem_map.2 ⟨p, hp, rfl⟩)) hd
 case load => subst ho; exact d1f (hx _ (by simp)) hd
 case store T s x y =>
  subst ho
  by_cases hdn : d = none
  ·refine d4w (hx _ (by simp)) (hx _ (by simp)) hdn fun r hr => ?_
   rcases hs with hs | hs
   ·simp only [d23, hr] at hs
    exact .inl hs
   ·exact .inr hs
  ·intro a st' hr
   exfalso
   cases d with
   | none => exact hdn rfl
   | some d => cases hr
 case nilck => subst ho; exact d4s (hx _ (by simp)) hd
 case bin => subst ho; exact e6c (hx _ (by simp)) (hx _ (by simp)) hd
 case un => subst ho; exact f71 (hx _ (by simp)) hd
 case eqs => subst ho; exact e6e (hx _ (by simp)) (hx _ (by simp)) hd
 case conv s t k x =>
  cases k <;> simp only [b6a, Option.some.injEq, reduceCtorEq] at ho
  subst ho; exact d4n (hx _ (by simp)) hd
 case mki => subst ho; exact e6h (hx _ (by simp)) hd
 case mks => subst ho; exact e6i (hx _ (by simp)) (hx _ (by simp)) hd
 case slice T sz x lo hi mx =>
  cases mx <;> simp only [b6a, Option.some.injEq, reduceCtorEq] at ho
  subst ho
  exact d4v (hx _ (by simp)) (fun y hy => hx _ (by simp [hy])) (fun y hy => hx _ (by simp [hy])) hd
 case faddr => subst ho; exact d4o (hx _ (by simp)) hd
 case iaddr => subst ho; exact d4q (hx _ (by simp)) (hx _ (by simp)) hd
 case ext => subst ho; exact e6f (hx _ (by simp)) hd
 case fld => subst ho; exact e6g (hx _ (by simp)) hd
 case tas => subst ho; exact e6n (hx _ (by simp)) hd
 case len => subst ho; exact d4r (hx _ (by simp)) hd
 case app => subst ho; exact e6b (hx _ (by simp)) (hx _ (by simp)) hd
 case mm mx ts xs2 =>
  match xs2, ho with
  | [x, y], ho =>
   simp only [Option.some.injEq] at ho
   subst ho
   exact f70 (hx _ (by simp)) (hx _ (by simp)) hd
end Go.Ideal
end
section
namespace Go.Ideal
open Classical
def a1a (st : St) : X -> List Nat
 | .t n => n :: (a3r (st.s n)).toList
 | _ => []
def a0f (st : St) : List X -> List Nat
 | [] => []
 | x :: xs => a1a st x ++ a0f st xs
def slX : X -> List Nat
 | .t n => [n]
 | _ => []
def slL : List X -> List Nat
 | [] => []
 | x :: xs => slX x ++ slL xs
theorem c1h {st : St} {x : X} : ∀ {xs : List X}, x ∈ xs -> ∀ t ∈ a1a st x, t ∈ a0f st xs
 | y :: ys, h, t, ht => by
  rcases List.mem_cons.1 h with rfl | h
  ·simp [a0f, ht]
  ·simp [a0f, c1h h t ht]
theorem e0f {DL : List Nat} {N : Nat} {st : St} {xs : List X} (h : ∀ t ∈ a0f st xs, t ∈ DL) (hN : ∀ t ∈ DL, t < N) : ∀ x ∈ xs, XO (· ∈ DL) N st x := fun x hx => {
 t := fun t ht => by
  subst ht
  have := h t (c1h hx t (by simp [a1a]))
  exact ⟨this, hN t this⟩
 b := fun u hu => by
  cases x with
  | t t =>
   have := h u (c1h hx u (by simp [a1a, show a3r (st.s t) = some u from hu]))
   exact ⟨this, hN u this⟩
  | _ => cases hu }
def fr (N : Nat) (W : List Nat) (st st' : St) : Prop := ∀ t, t < N -> t ∉ W -> agr st st' t
section
variable {V : List (Nat × Nat)} {P : Program} {G : GG} {N : Nat} {st st' : St} {step : (St -> Prop) -> St -> Prop}
theorem Loc.widen {rd wr DL W : List Nat} (h : Loc P G N V step st st' rd wr) (h1 : ∀ t ∈ rd, t ∈ DL) (h2 : ∀ t ∈ wr, t ∈ DL) (h3 : ∀ t ∈ DL, t < N) (h4 : ∀ t ∈ W, t < N) (hf : fr N W st st') : Loc P G N V step st st' DL W where
 lt t ht := ht.elim (h3 t) (h4 t)
 frame t ht hn := hf t ht hn
 loc st2 hV hst K hK := h.loc st2 hV (fun t ht => hst t (.inl (ht.elim (h1 t) (h2 t)))) K fun st2' g1 g2 => hK st2' (fun t ht => by
   by_cases hw : t ∈ wr
   ·exact g1 t hw
   ·exact ((h.frame t (h4 t ht) hw).symm.trans (hst t (.inr ht))).trans (g2 t (h4 t ht) hw)) (fun t ht hn => by
   by_cases hw : t ∈ wr
   ·exact ((hst t (.inl (h2 t hw))).symm.trans (hf t ht hn)).trans (g1 t hw)
   ·exact g2 t ht hw)
theorem e7m {d : Option Nat} {i : IOp} {xs : List X} {W : List Nat} (ho : b6a i = some xs) (he : evS G N d i st = some st') (hN : ∀ t ∈ d.toList ++ a0f st xs, t < N) (hW : ∀ t ∈ W, t < N) (hs : d23 N st i) (hf : fr N W st st') :
  Loc P G N V (b9k P G N d (.op i)) st st' (d.toList ++ a0f st xs) W := by
 have hx := e0f (DL := d.toList ++ a0f st xs) (st := st) (xs := xs) (fun t ht => by simp [ht]) hN
 have hd : DD (· ∈ d.toList ++ a0f st xs) N d := fun t ht => by
  subst ht
  exact ⟨by simp, hN t (by simp)⟩
 unfold evS at he
 cases hr : (a10 G N d i).run st with
 | none => rw [hr] at he; cases he
 | some r =>
  obtain ⟨u, st1⟩ := r
  rw [hr] at he
  simp only [Option.map, Option.some.injEq] at he
  subst he
  obtain ⟨rd, wr, sw', g1, g2, g3, _⟩ := e6k (sw := []) ho hx hd (.inl hs) u st1 hr
  obtain ⟨st2, rd2, wr2, ⟨rfl, rfl, rfl⟩, hL⟩ := c08 (V := V) (P := P) (G := G) (N := N) (d := d) (act := .op i) (st := st) (K := fun st2 rd2 wr2 => st2 = st1 /\ rd2 = rd /\ wr2 = wr) (by simp only [e3y, g1, and_self])
  exact hL.widen g2 g3 hN hW hf
theorem d8u {d : Nat} {p : Nat × Nat} (hI : b0r V st) (hp : p ∈ V) (hd : d < N) (he : evS G N (some d) (.mv (.t p.1)) st = some st') : Loc P G N V (b9k P G N (some d) (.op (.mv (.t p.1)))) st st' (some d).toList [d] /\ True := by
 have run : ∀ s : St, b0r V s -> (a10 G N (some d) (.mv (.t p.1))).run s = some ((), s.put d (.ref p.1 [] 0 p.2)) := by
  intro s hs
  obtain ⟨h1, h2⟩ := hs p hp
  cases hv : s.s p.1 <;> simp only [hv, c3m, reduceCtorEq] at h1
  simp only [a10, mvE, Ev.run_bind, a06, rdv, rde, hv, b7z, Ev.run, setD, a3z, Option.bind, h2]
 have hst : st' = st.put d (.ref p.1 [] 0 p.2) := by
  simp only [evS, run st hI, Option.map, Option.some.injEq] at he
  exact he.symm
 subst hst
 refine ⟨⟨fun t ht => ?_, fun t ht hn => ?_, fun st2 hV2 hag K hK => ?_⟩, trivial⟩
 ·rcases ht with ht | ht <;> simp at ht <;> subst ht <;> exact hd
 ·exact agr.putn _ (by simpa using hn)
 ·simp only [b9k, run st2 hV2]
  refine hK _ (fun t ht => (hag t (.inr ht)).put _) (fun t ht hn => agr.putn _ (by simpa using hn))
theorem d5a {d : Option Nat} {i : IOp} {xs : List X} (ho : b6a i = some xs) (he : evS G N d i st = some st') (hN : ∀ t ∈ d.toList ++ a0f st xs, t < N) :
  Loc P G N V (b9k P G N d (.op i)) st st' (List.range N) (List.range N) := by
 have hx : ∀ x ∈ xs, XO (· < N) N st x := fun x hx => by
  have := e0f (DL := d.toList ++ a0f st xs) (st := st) (xs := xs) (fun t ht => by simp [ht]) hN x hx
  exact { t := fun t ht => ⟨(this.t t ht).2, (this.t t ht).2⟩, b := fun u hu => ⟨(this.b u hu).2, (this.b u hu).2⟩ }
 have hd : DD (· < N) N d := fun t ht => by
  subst ht
  exact ⟨hN t (by simp), hN t (by simp)⟩
 unfold evS at he
 cases hr : (a10 G N d i).run st with
 | none => rw [hr] at he; cases he
 | some r =>
  obtain ⟨u, st1⟩ := r
  rw [hr] at he
  simp only [Option.map, Option.some.injEq] at he
  subst he
  obtain ⟨rd, wr, sw', g1, g2, g3, _⟩ := e6k (sw := []) ho hx hd (.inr fun t ht => ht) u st1 hr
  obtain ⟨st2, rd2, wr2, ⟨rfl, rfl, rfl⟩, hL⟩ := c08 (V := V) (P := P) (G := G) (N := N) (d := d) (act := .op i) (st := st) (K := fun st2 rd2 wr2 => st2 = st1 /\ rd2 = rd /\ wr2 = wr) (by simp only [e3y, g1, and_self])
  exact hL.widen (fun t ht => List.mem_range.2 (g2 t ht)) (fun t ht => List.mem_range.2 (g3 t ht)) (fun t ht => List.mem_range.1 ht) (fun t ht => List.mem_range.1 ht) (fun t ht hn => absurd (List.mem_range.2 ht) hn)
theorem d49 {d : Option Nat} {f : FuncId} {args : List (Bool × X)} {tys : List TypeId} {st1 st2 : St} {res : AV} {W : List Nat} (h1 : gvs N (N + 2) args (some st) = some st1) (h2 : pss N (N + 2) args (some st1) = some st2) (hA : ACalls P G f (a69 N args.length st2) res) (hn : a0k res = true)
  (hN : ∀ t ∈ d.toList ++ a0f st (args.map (·.2)), t < N) (hW : ∀ t ∈ W, t < N) (hf : fr N W st (b4p (if a09 res then st1 else st2) N d res)) :
  Loc P G N V (b9k P G N d (.call f args tys)) st (b4p (if a09 res then st1 else st2) N d res) (d.toList ++ a0f st (args.map (·.2))) W := by
 have hx := e0f (DL := d.toList ++ a0f st (args.map (·.2))) (st := st) (xs := args.map (·.2)) (fun t ht => by simp [ht]) hN
 have hx' : ∀ p ∈ args, XO (· ∈ d.toList ++ a0f st (args.map (·.2))) N st p.2 := fun p hp => hx _ (List.mem_map.2 ⟨p, hp, rfl⟩)
 have hd : DD (· ∈ d.toList ++ a0f st (args.map (·.2))) N d := fun t ht => by
  subst ht
  exact ⟨by simp, hN t (by simp)⟩
 rw [<- a9n] at h1
 cases hr1 : (a60 N (N + 2) args).run st with
 | none => rw [hr1] at h1; cases h1
 | some r1 =>
  obtain ⟨u1, st1'⟩ := r1
  rw [hr1] at h1
  simp only [Option.map, Option.some.injEq] at h1
  subst h1
  rw [<- a40] at h2
  cases hr2 : (a4j N (N + 2) args).run st1' with
  | none => rw [hr2] at h2; cases h2
  | some r2 =>
   obtain ⟨u2, st2'⟩ := r2
   rw [hr2] at h2
   simp only [Option.map, Option.some.injEq] at h2
   subst h2
   obtain ⟨rd, wr, sw1, a1, a2, a3, hb, _, a4⟩ := c7i (N := N) (D := (· ∈ d.toList ++ a0f st (args.map (·.2)))) args (N + 2) (st := st) (sw := []) (P := fun _ st' sw' => BLe N st st' /\ (∀ t ∈ [], t ∈ sw') /\ (∀ i x, args[i]? = some (true, x) -> N + 2 + i ∈ sw')) (by omega) hx' (fun st' sw' b1 b2 b3 => ⟨b1, b2, b3⟩) u1 st1' hr1
   obtain ⟨rd2, wr2, sw2, c1, c2, c3, c4, c5⟩ := c3k (N := N) (D := (· ∈ d.toList ++ a0f st (args.map (·.2)))) args (N + 2) (st := st1') (sw := sw1) (P := fun _ st' sw' => (∀ t ∈ sw1, t ∈ sw') /\ (∀ i x, args[i]? = some (false, x) -> N + 2 + i ∈ sw')) (by omega) (fun p hp => (hx' p hp).le hb) (fun st' sw' b1 b2 => ⟨b1, b2⟩) u2 st2' hr2
   have hfin : ∃ rd3 wr3 sw3, (c4p N d res).runF N ((if a09 res then st1' else st2').clear N) [] = some ⟨(), b4p (if a09 res then st1' else st2') N d res, rd3, wr3, sw3⟩ /\ (∀ t ∈ rd3, t ∈ d.toList ++ a0f st (args.map (·.2))) /\ (∀ t ∈ wr3, t ∈ d.toList ++ a0f st (args.map (·.2))) := by
    cases d with
    | none => exact ⟨[], [], [], rfl, by simp, by simp⟩
    | some d =>
     obtain ⟨rd3, wr3, sw3, e1, e2, e3, _⟩ := FpP.thru (D := (· ∈ (some d).toList ++ a0f st (args.map (·.2)))) (N := N) (st := (if a09 res then st1' else st2').clear N) (sw := []) (d := some d) (v := res) (M := N) (P := tt) (Nat.le_refl _) hd (fun _ _ => trivial) () _ (by rw [a9o])
     exact ⟨rd3, wr3, sw3, e1, e2, e3⟩
   obtain ⟨rd3, wr3, sw3, e1, e2, e3⟩ := hfin
   obtain ⟨st3, rd4, wr4, ⟨rfl, hrd, hwr⟩, hL⟩ := c08 (V := V) (P := P) (G := G) (N := N) (d := d) (act := .call f args tys) (st := st) (K := fun s2 r2 w2 => s2 = b4p (if a09 res then st1' else st2') N d res /\ (∀ t ∈ r2, t ∈ d.toList ++ a0f st (args.map (·.2))) /\ (∀ t ∈ w2, t ∈ d.toList ++ a0f st (args.map (·.2)))) (by
    refine ⟨_, _, _, res, a1, c1, hA, hn, e1, fun i hi => ?_, rfl, fun t ht => ?_, fun t ht => ?_⟩
    ·cases ha : args[i]? with
     | none => simp at ha; omega
     | some p =>
      obtain ⟨b, x⟩ := p
      cases b with
      | true => exact c4 _ (a4 i x ha)
      | false => exact c5 i x ha
    ·simp only [List.mem_append] at ht
     rcases ht with ((ht | ht) | ht) | ht
     ·exact a2 t ht
     ·exact c2 t ht
     ·exact c3 t ht
     ·exact e2 t ht
    ·split at ht <;> simp only [List.mem_append] at ht
     ·rcases ht with ht | ht
      ·exact a3 t ht
      ·exact e3 t ht
     ·rcases ht with (ht | ht) | ht
      ·exact a3 t ht
      ·exact c3 t ht
      ·exact e3 t ht)
   exact hL.widen hrd hwr hN hW hf
end
def c3h (st : St) (N : Nat) (T : List (Nat × AV)) (d : Option Nat) (res : AV) : St := match d with
 | some d => (st.lentS N T).thru N d res
 | none => st.lentS N T
theorem b8l {α : Type} {T : List (Nat × α)} {t : Nat} {v : α} (h : T.lookup t = some v) : (t, v) ∈ T := by
 induction T with
 | nil => simp at h
 | cons p T ih =>
  obtain ⟨u, x⟩ := p
  by_cases h2 : t = u
  ·subst h2
   simp at h
   simp [h]
  ·have : (t == u) = false := by simpa using h2
   simp only [List.lookup_cons, this] at h
   exact List.mem_cons_of_mem _ (ih h)
def d48 : AV -> Bool
 | .lit _ => true
 | _ => false
def a6y (rd : List Nat) : X -> Bool
 | .t n => rd.contains n
 | _ => true
def c54 (st : St) (rd : List Nat) (args : List (Bool × X)) : Bool := args.all fun p => !p.1 && (d48 (rdv st p.2) && a6y rd p.2)
def a2a (st : St) (j : Nat) : List (Bool × X) -> St
 | [] => st
 | p :: ps => a2a (st.put j (rdv st p.2)) (j + 1) ps
mutual
def a39 (rd : List Nat) : AV -> Bool
 | .ref t _ _ _ => rd.contains t
 | .bor t _ _ _ _ => rd.contains t
 | .fn _ fs cs => a3w rd fs && a3w rd cs
 | _ => true
def a3w (rd : List Nat) : List AV -> Bool
 | [] => true
 | k :: ks => a39 rd k && a3w rd ks
end
def c52 (st : St) (rd : List Nat) (n : Nat) (lay : List CS) : Bool := lay.all fun
 | .p k => decide (k < n)
 | .x y => a6y rd y && a39 rd (xv st y)
theorem d1o {v : AV} (h : d48 v = true) : ∃ u, v = .lit u := by cases v <;> simp [d48] at h; exact ⟨_, rfl⟩
theorem c6v {st : St} {j N : Nat} {v : AV} {x : X} (hx : ∀ n, x = .t n -> n < N) (hj : N <= j) : rdv (st.put j v) x = rdv st x := by
 cases x with
 | t n => have := hx n rfl; simp [rdv, show n ≠ j by omega]
 | _ => rfl
theorem b5c {N : Nat} : ∀ (args : List (Bool × X)) (j : Nat) (st : St), (args.all fun p => !p.1) = true -> (a60 N j args).run st = some ((), st)
 | [], j, st, _ => rfl
 | (g, x) :: xs, j, st, h => by
  simp only [List.all_cons, Bool.and_eq_true, Bool.not_eq_true'] at h
  obtain ⟨rfl, h2⟩ := h
  simp only [a60, Bool.false_eq_true, if_false, Ev.run_bind, Ev.run_pure, Option.bind]
  exact b5c xs (j + 1) st h2
theorem b26 {N : Nat} : ∀ (args : List (Bool × X)) (j : Nat) (st : St), N <= j -> (∀ p ∈ args, p.1 = false /\ d48 (rdv st p.2) = true /\ ∀ n, p.2 = .t n -> n < N) -> (a4j N j args).run st = some ((), a2a st j args)
 | [], j, st, _, _ => rfl
 | (g, x) :: xs, j, st, hj, h => by
  obtain ⟨h1, h2, h3⟩ := h _ (List.mem_cons_self ..)
  simp only at h1 h2 h3
  subst h1
  obtain ⟨u, hu⟩ := d1o h2
  have hp : (c1w N x j).run st = some ((), st.put j (rdv st x)) := by
   unfold c1w
   simp only [Ev.run_bind, a06, hu, Option.bind, a0k, a0l, if_true]
   cases x <;> simp [a4c, a0v, frz, a8h]
  simp only [a4j, Bool.false_eq_true, if_false, Ev.run_bind, hp, Option.bind, a2a]
  refine b26 xs (j + 1) _ (by omega) fun p hp2 => ?_
  obtain ⟨k1, k2, k3⟩ := h p (List.mem_cons_of_mem _ hp2)
  exact ⟨k1, by rw [c6v k3 hj]; exact k2, k3⟩
theorem b46 {N : Nat} : ∀ (args : List (Bool × X)) (j : Nat) (st : St), (∀ t, t < j -> (a2a st j args).s t = st.s t)
 | [], j, st, t, _ => rfl
 | p :: ps, j, st, t, ht => by
  rw [a2a, b46 (N := N) ps (j + 1) _ t (by omega)]
  simp [show t ≠ j by omega]
theorem b8y : ∀ (args : List (Bool × X)) (j : Nat) (st : St) (N : Nat), N <= j -> (∀ p ∈ args, d48 (rdv st p.2) = true /\ ∀ n, p.2 = .t n -> n < N) -> ∀ t, (a2a st j args).ep t = st.ep t
 | [], j, st, N, _, _, t => rfl
 | p :: ps, j, st, N, hj, h, t => by
  obtain ⟨h1, h2⟩ := h _ (List.mem_cons_self ..)
  obtain ⟨u, hu⟩ := d1o h1
  rw [a2a, b8y ps (j + 1) _ N (by omega) (fun q hq => by
   obtain ⟨k1, k2⟩ := h q (List.mem_cons_of_mem _ hq)
   exact ⟨by rw [c6v k2 hj]; exact k1, k2⟩) t]
  simp [hu, St.put_ep, a0w]
theorem b2c {N : Nat} : ∀ (args : List (Bool × X)) (j : Nat) (st : St), N <= j -> (∀ p ∈ args, ∀ n, p.2 = .t n -> n < N) -> ∀ i p, args[i]? = some p -> (a2a st j args).s (j + i) = rdv st p.2
 | [], j, st, _, _, i, p, h => by simp at h
 | q :: ps, j, st, hj, hx, i, p, h => by
  rw [a2a]
  cases i with
  | zero =>
   simp only [List.getElem?_cons_zero, Option.some.injEq] at h
   subst h
   rw [b46 (N := N) ps (j + 1) _ (j + 0) (by omega)]
   simp
  | succ i =>
   have := b2c ps (j + 1) (st.put j (rdv st q.2)) (by omega) (fun p hp => hx p (List.mem_cons_of_mem _ hp)) i p (by simpa using h)
   rw [show j + (i + 1) = j + 1 + i by omega, this]
   exact c6v (hx p (List.mem_cons_of_mem _ (List.mem_of_getElem? (by simpa using h)))) hj
mutual
theorem c4k {stA stB : St} {rd : List Nat} {L : List (Nat × Nat)} (h : ∀ t, t ∈ rd -> stB.ep t = stA.ep t) : ∀ av, a39 rd av = true -> trA stB L av = trA stA L av
 | .ref t q o e, hr => by
  simp only [a39, List.contains_iff_mem] at hr
  simp only [trA, h t hr]
 | .fn f fs cs, hr => by
  simp only [a39, Bool.and_eq_true] at hr
  simp only [trA, b9b h fs hr.1, b9b h cs hr.2]
 | .bor _ _ _ _ _, _ => by simp only [trA]
 | .dead, _ | .lit _, _ | .sl _ _, _ | .ip _ _, _ | .own _ _ _, _ | .var _, _ | .agg _, _ | .tup _, _ | .ifc _ _, _ | .mp _ _, _ | .loan _, _ => by simp only [trA]
theorem b9b {stA stB : St} {rd : List Nat} {L : List (Nat × Nat)} (h : ∀ t, t ∈ rd -> stB.ep t = stA.ep t) : ∀ ks, a3w rd ks = true -> trL stB L ks = trL stA L ks
 | [], _ => by simp only [trL]
 | k :: ks, hr => by
  simp only [a3w, Bool.and_eq_true] at hr
  simp only [trL, c4k h k hr.1, b9b h ks hr.2]
end
theorem c1v {N : Nat} {s1 s2 t1 t2 : St} {rd : List Nat} (h : ∀ t, t ∈ rd -> t1.s t = s1.s t /\ t2.s t = s2.s t /\ t2.ep t = s2.ep t) : ∀ (es : List (Option Nat × AV)) (acc : List AV) (L : List (Nat × Nat)), (∀ p ∈ es, a39 rd p.2 = true) -> pX N t1 t2 acc L es = pX N s1 s2 acc L es
 | [], acc, L, _ => by simp only [pX]
 | (some k, av) :: es, acc, L, hr => by
  have ih : ∀ a l, pX N t1 t2 a l es = pX N s1 s2 a l es := fun a l => c1v h es a l fun p hp => hr p (List.mem_cons_of_mem _ hp)
  simp only [pX, ih]
 | (none, av) :: es, acc, L, hr => by
  have ih : ∀ a l, pX N t1 t2 a l es = pX N s1 s2 a l es := fun a l => c1v h es a l fun p hp => hr p (List.mem_cons_of_mem _ hp)
  have h0 := hr _ (List.mem_cons_self ..)
  simp only at h0
  have gen : ∀ av, a39 rd av = true -> trA t2 L av = trA s2 L av := fun av ha => c4k (fun t ht => (h t ht).2.2) av ha
  cases av with
  | ref t q o e =>
   have ht : t ∈ rd := by simpa [a39] using h0
   obtain ⟨a1, a2, a3⟩ := h t ht
   cases q with
   | nil =>
    cases o with
    | zero => simp only [pX, ih, a1, a2, a3]
    | succ o => simp only [pX, gen _ h0, ih]
   | cons i q => simp only [pX, gen _ h0, ih]
  | _ => simp only [pX, gen _ h0, ih]
theorem d1q {V : List (Nat × Nat)} {P : Program} {G : GG} {N : Nat} {st : St} {d : Option Nat} {cv : X} {args : List (Bool × X)} {lay : List CS} {tys : List TypeId} {f : FuncId} {fs cs pre : List AV} {L : List (Nat × Nat)} {res : AV} {posts : List (Nat × AV)} {rd : List Nat}
  (ha : c54 st rd args = true) (hcv : a6y rd cv = true) (hfn : xv st cv = .fn f fs cs) (hfB : fnB P f = true) (hri : (a3w rd fs && a3w rd cs) = true) (hlay : c52 st rd args.length lay = true)
  (hpx : pX N st (a2a st (N + 2) args) [] [] (c1i N (a2a st (N + 2) args) fs lay cs) = some (pre, L)) (hA : ACallsX P G f pre res posts) (hnr : a0k res = true) (hpo : posts.map (·.1) = L.map (·.2)) (hvar : ∀ i av, (i, av) ∈ posts -> ∃ ks, av = .var ks /\ a0z ks = true)
  (hrd : ∀ t ∈ rd, t < N) (hd : ∀ t ∈ d.toList, t < N) (hL : ∀ t ∈ L.map (·.1), t < N /\ t ∈ rd) :
  Loc P G N V (b9k P G N d (.callx cv args lay tys)) st (c3h st N ((L.map (·.1)).zip (posts.map (·.2))) d res) (d.toList ++ rd) (d.toList ++ L.map (·.1)) := by
 have hT : ∀ t q, b2l ((L.map (·.1)).zip (posts.map (·.2))) t q = false := by
  intro t q
  unfold b2l
  split
  ·rename_i i q' ks hl
   have hm := (List.of_mem_zip (b8l hl)).2
   obtain ⟨p, hp, hpe⟩ := List.mem_map.1 hm
   obtain ⟨ks', he, hno⟩ := hvar p.1 p.2 hp
   rw [hpe] at he
   injection he with he
   subst he
   simp [hno]
  ·rfl
 have run : ∀ s : St, (∀ t, t ∈ d.toList ++ rd \/ t ∈ d.toList ++ L.map (·.1) -> agr st s t) -> ∀ K : St -> Prop, K (c3h s N ((L.map (·.1)).zip (posts.map (·.2))) d res) -> b9k P G N d (.callx cv args lay tys) K s := by
  intro s hag K hK
  have hrs : ∀ t, t ∈ rd -> agr st s t := fun t ht => hag t (.inl (List.mem_append.2 (.inr ht)))
  have hx : ∀ x, a6y rd x = true -> rdv s x = rdv st x /\ xv s x = xv st x /\ ∀ n, x = .t n -> n < N := fun x hx => by
   cases x with
   | t n =>
    have hn : n ∈ rd := by simpa [a6y] using hx
    refine ⟨(hrs n hn).1, (hrs n hn).1, fun m hm => ?_⟩
    injection hm with hm
    subst hm
    exact hrd _ hn
   | _ => exact ⟨rfl, rfl, fun _ h => by cases h⟩
  have hargs : ∀ p ∈ args, p.1 = false /\ d48 (rdv s p.2) = true /\ (∀ n, p.2 = .t n -> n < N) /\ rdv s p.2 = rdv st p.2 := fun p hp => by
   have := List.all_eq_true.1 ha p hp
   simp only [Bool.and_eq_true, Bool.not_eq_true'] at this
   obtain ⟨k1, k2, k3⟩ := this
   obtain ⟨e1, _, e3⟩ := hx _ k3
   exact ⟨k1, by rw [e1]; exact k2, e3, e1⟩
  have hargs0 : ∀ p ∈ args, d48 (rdv st p.2) = true /\ ∀ n, p.2 = .t n -> n < N := fun p hp => by
   obtain ⟨_, k2, k3, k4⟩ := hargs p hp
   exact ⟨by rw [<- k4]; exact k2, k3⟩
  have hg := b5c (N := N) args (N + 2) s (List.all_eq_true.2 fun p hp => by simp [(hargs p hp).1])
  have hp := b26 (N := N) args (N + 2) s (by omega) fun p hp => ⟨(hargs p hp).1, (hargs p hp).2.1, (hargs p hp).2.2.1⟩
  have hep := b8y args (N + 2) s N (by omega) fun p hp => ⟨(hargs p hp).2.1, (hargs p hp).2.2.1⟩
  have hep0 := b8y args (N + 2) st N (by omega) hargs0
  have hps := b46 (N := N) args (N + 2) s
  have hps0 := b46 (N := N) args (N + 2) st
  have hxv : ∀ (s : St) (y : X), (∀ n, y = .t n -> n < N) -> xv (a2a s (N + 2) args) y = xv s y := fun s y hy => by
   cases y with
   | t n => exact b46 (N := N) args (N + 2) s n (by have := hy n rfl; omega)
   | _ => rfl
  have hcv2 : xv (a2a s (N + 2) args) cv = .fn f fs cs := by rw [hxv s cv (hx cv hcv).2.2, (hx cv hcv).2.1]; exact hfn
  have hlay2 : lay.map (c9t N (a2a s (N + 2) args)) = lay.map (c9t N (a2a st (N + 2) args)) := by
   apply List.map_congr_left
   intro c hc
   have := List.all_eq_true.1 hlay c hc
   cases c with
   | p k =>
    have hk : k < args.length := by simpa using this
    have h1 := b2c (N := N) args (N + 2) s (by omega) (fun p hp => (hargs p hp).2.2.1) k args[k] (by simp [hk])
    have h2 := b2c (N := N) args (N + 2) st (by omega) (fun p hp => (hargs p hp).2.2.1) k args[k] (by simp [hk])
    simp only [c9t, h1, h2, (hargs _ (List.getElem_mem hk)).2.2.2]
   | x y =>
    simp only [Bool.and_eq_true] at this
    have hy := hx y this.1
    simp only [c9t, hxv s y hy.2.2, hxv st y hy.2.2, hy.2.1]
  have heff : c1i N (a2a s (N + 2) args) fs lay cs = c1i N (a2a st (N + 2) args) fs lay cs := by simp only [c1i, hlay2]
  simp only [Bool.and_eq_true] at hri
  have hrefL : ∀ ks : List AV, a3w rd ks = true -> ∀ k ∈ ks, a39 rd k = true := by
   intro ks
   induction ks with
   | nil => intro _ k hk; simp at hk
   | cons k ks ih =>
    intro h k' hk'
    simp only [a3w, Bool.and_eq_true] at h
    rcases List.mem_cons.1 hk' with rfl | hk'
    ·exact h.1
    ·exact ih h.2 k' hk'
  have hrefs : ∀ p ∈ c1i N (a2a st (N + 2) args) fs lay cs, a39 rd p.2 = true := by
   intro p hp
   simp only [c1i, List.mem_append, List.mem_map] at hp
   rcases hp with ⟨k, hk, rfl⟩ | ⟨c, hc, rfl⟩ | ⟨k, hk, rfl⟩
   ·exact hrefL fs hri.1 k hk
   ·have := List.all_eq_true.1 hlay c hc
    cases c with
    | p k =>
     have hk : k < args.length := by simpa using this
     have h2 := b2c (N := N) args (N + 2) st (by omega) (fun p hp => (hargs p hp).2.2.1) k args[k] (by simp [hk])
     obtain ⟨u, hu⟩ := d1o (hargs0 _ (List.getElem_mem hk)).1
     simp only [c9t, h2, hu, a39]
    | x y =>
     simp only [Bool.and_eq_true] at this
     simp only [c9t, hxv st y (hx y this.1).2.2]
     exact this.2
   ·exact hrefL cs hri.2 k hk
  have hpx2 : pX N s (a2a s (N + 2) args) [] [] (c1i N (a2a s (N + 2) args) fs lay cs) = some (pre, L) := by
   rw [heff, <- hpx]
   exact c1v (rd := rd) (fun t ht => ⟨(hrs t ht).1, by rw [hps t (by have := hrd t ht; omega), hps0 t (by have := hrd t ht; omega)]; exact (hrs t ht).1, by rw [hep, hep0]; exact (hrs t ht).2⟩) _ _ _ hrefs
  have heq : ∀ c : Bool, (if c = true then s else a2a s (N + 2) args).lentS N ((L.map (·.1)).zip (posts.map (·.2))) = s.lentS N ((L.map (·.1)).zip (posts.map (·.2))) := by
   intro c
   cases c
   ·refine St.ext' (fun u => ?_) (fun u => hep u)
    simp only [St.lentS, Bool.false_eq_true, if_false]
    by_cases hu : u < N
    ·simp only [hu, if_true, hps u (by omega)]
    ·simp only [hu, if_false]
   ·rfl
  simp only [b9k, c7b]
  refine ⟨f, fs, cs, s, a2a s (N + 2) args, L, pre, res, posts, _, hg, hp, hcv2, hfB, hpx2, hA, hnr, hpo, fun i av hm => (hvar i av hm).imp fun _ h => h.1, ?_, hK⟩
  rw [heq]
  cases d with
  | none => simp only [c4p, Ev.run_pure, c3h]
  | some d => simp only [c4p, a9o, c3h]
 have low : ∀ s : St, ∀ t, t < N -> t ∉ d.toList ++ L.map (·.1) -> agr s (c3h s N ((L.map (·.1)).zip (posts.map (·.2))) d res) t := by
  intro s t ht hn
  simp only [List.mem_append, not_or] at hn
  have hlk : ((L.map (·.1)).zip (posts.map (·.2))).lookup t = none := by
   cases hl : ((L.map (·.1)).zip (posts.map (·.2))).lookup t with
   | none => rfl
   | some av => exact absurd (List.of_mem_zip (b8l hl)).1 hn.2
  have hlent : agr s (s.lentS N ((L.map (·.1)).zip (posts.map (·.2)))) t := by
   refine ⟨?_, rfl⟩
   simp only [St.lentS, ht, if_true, hlk]
   have : b2l ((L.map (·.1)).zip (posts.map (·.2))) = fun _ _ => false := by funext a b; exact hT a b
   rw [this, a4q]
  cases d with
  | none => exact hlent
  | some d =>
   have htd : t ≠ d := by simpa using hn.1
   simp only [c3h]
   exact ((hlent.trans (agr.putn _ (by omega))).trans (agr.putn _ (by omega))).trans (agr.putn _ htd)
 refine ⟨fun t ht => ?_, fun t ht hn => low st t ht hn, fun s _ hag K hK => run s hag K (hK _ (fun t ht => ?_) fun t ht hn => low s t ht hn)⟩
 ·rcases ht with ht | ht <;> rcases List.mem_append.1 ht with ht | ht
  ·exact hd t ht
  ·exact hrd t ht
  ·exact hd t ht
  ·exact (hL t ht).1
 ·have hgt := hag t (.inr ht)
  have htN : t < N := by
   rcases List.mem_append.1 ht with ht | ht
   ·exact hd t ht
   ·exact (hL t ht).1
  have hlent : agr (st.lentS N ((L.map (·.1)).zip (posts.map (·.2)))) (s.lentS N ((L.map (·.1)).zip (posts.map (·.2)))) t := by
   refine ⟨?_, hgt.2⟩
   simp only [St.lentS, htN, if_true, hgt.1]
  cases d with
  | none => exact hlent
  | some d =>
   simp only [c3h]
   exact ((hlent.put _).put _).put _
def wrE (v : AV) (x : X) : List Nat := if a0v v = true then [] else slX x
def Wop (st : St) (d : Option Nat) : IOp -> List Nat
 | .asg x => d.toList ++ slX x
 | .mva x => d.toList ++ slX x
 | .mvf x => d.toList ++ slX x
 | .box _ _ x => d.toList ++ slX x
 | .build _ _ parts => d.toList ++ slL (parts.map fun p => p.2.2.2)
 | .bslice _ _ _ _ _ parts => d.toList ++ slL (parts.map fun p => p.2)
 | .store _ _ x y => a1a st x ++ slX y
 | .app _ _ _ _ x y => d.toList ++ a0f st [x, y]
 | .mki _ x => d.toList ++ slX x
 | .ext x _ => d.toList ++ wrE (rdv st x) x
 | _ => d.toList
def d3n (b : Bool) (p q : Prop) : Prop := if b then p else q
abbrev DA := List (List Nat) × List (Nat × Nat)
def b0l (V : List (Nat × Nat)) (st : St) (xs : List X) : IOp -> List Nat
 | .mv (.t t) => if V.any (fun p => p.1 == t) then [] else a0f st xs
 | _ => a0f st xs
def f65 (N : Nat) (aft : DA) (fps : List (List Nat × List Nat)) (K : St -> Prop) (st : St) : Prop := b97 aft.1 fps = true /\ ∀ st', (∀ t, t < N -> agr st st' t) -> K st'
section
variable (P : Program) (G : GG) (N : Nat) (aft : DA)
def d3m (ex : List Nat) (d : Option Nat) (act : IAct) (fps : List (List Nat × List Nat)) (Kn : List (List Nat × List Nat) -> St -> Prop) (st : St) : Prop := match act with
 | .op i => match b6a i, evS G N d i st with
  | some xs, some st' => d3n (e3j N st i) ((∀ t ∈ ex ++ (d.toList ++ a0f st xs), t < N) /\ (∀ t ∈ Wop st d i, t < N) /\ fr N (Wop st d i) st st' /\ Kn (fps ++ [(ex ++ (d.toList ++ b0l aft.2 st xs i), Wop st d i)]) st')
   ((∀ t ∈ ex ++ (d.toList ++ a0f st xs), t < N) /\ Kn (fps ++ [(ex ++ List.range N, List.range N)]) st')
  | _, _ => False
 | .call f args _ => match gvs N (N + 2) args (some st) with
  | some st1 => match pss N (N + 2) args (some st1) with
   | some st2 => ∃ res W, ACalls P G f (a69 N args.length st2) res /\ a0k res = true /\ (∀ t ∈ ex ++ (d.toList ++ a0f st (args.map (·.2))), t < N) /\ (∀ t ∈ W, t < N) /\ fr N W st (b4p (if a09 res then st1 else st2) N d res) /\
    Kn (fps ++ [(ex ++ (d.toList ++ a0f st (args.map (·.2))), W)]) (b4p (if a09 res then st1 else st2) N d res)
   | none => False
  | none => False
 | .callx cv args lay _ => ∃ f fs cs pre L res posts rd, c54 st rd args = true /\ a6y rd cv = true /\ xv st cv = .fn f fs cs /\ fnB P f = true /\ (a3w rd fs && a3w rd cs) = true /\ c52 st rd args.length lay = true /\
   pX N st (a2a st (N + 2) args) [] [] (c1i N (a2a st (N + 2) args) fs lay cs) = some (pre, L) /\ ACallsX P G f pre res posts /\ a0k res = true /\ posts.map (·.1) = L.map (·.2) /\ (∀ i av, (i, av) ∈ posts -> ∃ ks, av = .var ks /\ a0z ks = true) /\
   (∀ t ∈ ex ++ rd, t < N) /\ (∀ t ∈ d.toList, t < N) /\ (∀ t ∈ L.map (·.1), t < N /\ t ∈ rd) /\ Kn (fps ++ [(ex ++ (d.toList ++ rd), d.toList ++ L.map (·.1))]) (c3h st N ((L.map (·.1)).zip (posts.map (·.2))) d res)
 | .nilq _ _ _ => False
 | .bad _ => False
def b1b : List AO -> List (List Nat × List Nat) -> (St -> Prop) -> St -> Prop
 | [], fps, K, st => f65 N aft fps K st
 | io :: rest, fps, K, st => match io.g with
  | none => d3m P G N aft [] io.dst io.act fps (fun fps st => b0r aft.2 st /\ b1b rest fps K st) st
  | some (_, t, want) => match st.s t with
   | .lit v => if c19 want v then d3m P G N aft [t] io.dst io.act fps (fun fps st => b0r aft.2 st /\ b1b rest fps K st) st else (∀ u ∈ t :: io.dst.toList, u < N) /\ b0r aft.2 (a4o io.dst st) /\ b1b rest (fps ++ [([t], io.dst.toList)]) K (a4o io.dst st)
   | _ => False
end
section
variable {P : Program} {G : GG} {N : Nat} {aft : DA}
theorem c7f {ex : List Nat} {d : Option Nat} {act : IAct} {fps : List (List Nat × List Nat)} {Kn : List (List Nat × List Nat) -> St -> Prop} {st : St} (hI : b0r aft.2 st) (h : d3m P G N aft ex d act fps Kn st) : ∃ st' rd wr, Loc P G N aft.2 (b9k P G N d act) st st' rd wr /\ (∀ t ∈ ex, t < N) /\ Kn (fps ++ [(ex ++ rd, wr)]) st' := by
 cases act with
 | op i =>
  simp only [d3m] at h
  split at h
  ·rename_i xs st' ho he
   unfold d3n at h
   split at h
   ·rename_i hb
    obtain ⟨h1, h2, h4, h5⟩ := h
    have gen : b0l aft.2 st xs i = a0f st xs -> ∃ st' rd wr, Loc P G N aft.2 (b9k P G N d (.op i)) st st' rd wr /\ (∀ t ∈ ex, t < N) /\ Kn (fps ++ [(ex ++ rd, wr)]) st' := fun e => ⟨st', _, _, e7m (V := aft.2) ho he (fun t ht => h1 t (List.mem_append.2 (.inr ht))) h2 (d98 hb) h4, fun t ht => h1 t (List.mem_append.2 (.inl ht)), by rw [e] at h5; exact h5⟩
    by_cases hm : ∃ t, i = .mv (.t t) /\ (aft.2.any fun p => p.1 == t) = true
    ·obtain ⟨t, rfl, ht⟩ := hm
     have e : b0l aft.2 st xs (.mv (.t t)) = [] := by simp only [b0l, ht, if_true]
     rw [e, List.append_nil] at h5
     obtain ⟨p, hp, hpt⟩ := List.any_eq_true.1 ht
     have hpt : p.1 = t := by simpa using hpt
     subst hpt
     cases d with
     | none =>
      exfalso
      have := (hI p hp).1
      cases hv : st.s p.1 <;> simp only [hv, c3m, reduceCtorEq] at this
      simp [evS, a10, mvE, Ev.run_bind, a06, rdv, hv, b7z, Ev.run, setD, Option.bind] at he
     | some d =>
      obtain ⟨q1, q2⟩ := d8u (P := P) (G := G) (N := N) hI hp (h2 d (by simp [Wop])) he
      exact ⟨st', _, _, q1, fun t ht => h1 t (List.mem_append.2 (.inl ht)), h5⟩
    ·refine gen ?_
     unfold b0l
     split
     ·rename_i t
      rw [if_neg]
      intro hc
      exact hm ⟨t, rfl, hc⟩
     ·rfl
   ·obtain ⟨h1, h5⟩ := h
    exact ⟨st', _, _, d5a ho he (fun t ht => h1 t (List.mem_append.2 (.inr ht))), fun t ht => h1 t (List.mem_append.2 (.inl ht)), h5⟩
  ·exact h.elim
 | call f args tys =>
  simp only [d3m] at h
  split at h
  ·rename_i st1 hg
   split at h
   ·rename_i st2 hp
    obtain ⟨res, W, h1, h2, h3, h4, h5, h6⟩ := h
    exact ⟨_, _, _, d49 hg hp h1 h2 (fun t ht => h3 t (List.mem_append.2 (.inr ht))) h4 h5, fun t ht => h3 t (List.mem_append.2 (.inl ht)), h6⟩
   ·exact h.elim
  ·exact h.elim
 | callx cv args lay tys =>
  simp only [d3m] at h
  obtain ⟨f, fs, cs, pre, L, res, posts, rd, h1, h2, h3, h4, h5, h6, h7, h8, h9, h10, h11, h12, h13, h14, h15⟩ := h
  exact ⟨_, _, _, d1q h1 h2 h3 h4 h5 h6 h7 h8 h9 h10 h11 (fun t ht => h12 t (List.mem_append.2 (.inr ht))) h13 h14, fun t ht => h12 t (List.mem_append.2 (.inl ht)), h15⟩
 | nilq T x yT => exact h.elim
 | bad o => exact h.elim
theorem b2b : ∀ (ios : List AO) (fps : List (List Nat × List Nat)) (K : St -> Prop) (st : St), b0r aft.2 st -> b1b P G N aft ios fps K st -> dCh P G N aft.2 ios fps (fun stn fps => b97 aft.1 fps = true /\ ∀ st', (∀ t, t < N -> agr stn st' t) -> K st') st
 | [], fps, K, st, hI, h => h
 | io :: rest, fps, K, st, hI, h => by
  simp only [b1b] at h
  simp only [dCh]
  cases hg : io.g with
  | none =>
   simp only [hg] at h
   obtain ⟨st', rd, wr, hL, _, hI', hK⟩ := c7f hI h
   refine ⟨st', rd, wr, ?_, hI', by simpa using b2b rest _ K st' hI' hK⟩
   have : b3d P G N io = b9k P G N io.dst io.act := by funext K st; simp only [b3d, hg]
   rw [this]; exact hL
  | some g =>
   obtain ⟨j, t, want⟩ := g
   simp only [hg] at h
   split at h
   ·rename_i v hv
    split at h
    ·rename_i hw
     obtain ⟨st', rd, wr, hL, hex, hI', hK⟩ := c7f hI h
     refine ⟨st', t :: rd, wr, ?_, hI', by simpa using b2b rest _ K st' hI' hK⟩
     exact {
      lt := fun u hu => by
       rcases hu with hu | hu
       ·rcases List.mem_cons.1 hu with rfl | hu
        ·exact hex _ (by simp)
        ·exact hL.lt u (.inl hu)
       ·exact hL.lt u (.inr hu)
      frame := hL.frame
      loc := fun st2 hV2 hst K2 hK2 => by
       have h1 : st2.s t = .lit v := by rw [(hst t (.inl (by simp))).1, hv]
       simp only [b3d, hg, h1, hw, if_true]
       exact hL.loc st2 hV2 (fun u hu => hst u (hu.imp (List.mem_cons_of_mem _) id)) K2 hK2 }
    ·rename_i hw
     obtain ⟨hN, hI', hK⟩ := h
     refine ⟨_, _, _, ?_, hI', b2b rest _ K _ hI' hK⟩
     exact {
      lt := fun u hu => hN u (by rcases hu with hu | hu <;> simp at hu ⊢ <;> simp [hu])
      frame := fun u hu hn => by
       cases hd : io.dst with
       | none => simp only [a4o]; exact agr.refl _ _
       | some d =>
        simp only [a4o]
        refine agr.putn _ ?_
        rintro rfl
        exact hn (by simp [hd])
      loc := fun st2 hV2 hst K2 hK2 => by
       have h1 : st2.s t = .lit v := by rw [(hst t (.inl (by simp))).1, hv]
       simp only [b3d, hg, h1, hw, Bool.false_eq_true, if_false]
       cases hd : io.dst with
       | none =>
        rw [hd] at hK2
        simp only [a4o] at hK2 ⊢
        exact hK2 _ (fun u hu => by simp at hu) (fun u _ _ => agr.refl _ _)
       | some d =>
        rw [hd] at hK2 hst
        simp only [a4o] at hK2 ⊢
        refine hK2 _ (fun u hu => ?_) (fun u _ hn => agr.putn _ (by rintro rfl; exact hn (by simp)))
        have : u = d := by simpa using hu
        subst this
        exact (hst u (.inr (by simp))).put _ }
   ·exact h.elim
end
end Go.Ideal
end
