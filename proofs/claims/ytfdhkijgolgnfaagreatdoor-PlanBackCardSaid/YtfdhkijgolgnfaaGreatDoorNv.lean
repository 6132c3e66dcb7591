/- Part Nv of the proof: a machine with trees for values, its soundness, and walks on it. -/
import Derived.Test.YtfdhkijgolgnfaaGreatDoorNc
section
set_option linter.unusedVariables false
set_option linter.unusedSimpArgs false
namespace Go.Ideal
def rdv (st : St) : X → AV
  | .t n => st.s n
  | .c v => .lit v
  | .nl sz => .own sz 0 []
  | .g n => .lit (.pointer (some ⟨n, 0, none⟩))
  | .f n => .fn n [] []
def rde (st : St) : X → Nat
  | .t n => st.ep n
  | _ => 0
theorem a0r (x : X) (st : St) : (a2n x).run st = some ((rdv st x, rde st x), st) := by cases x <;> rfl
section
variable {st : St}
@[go_sem] theorem h7w (n : Nat) : rdv st (.t n) = st.s n := (rfl)
@[go_sem] theorem h8u (v : Value) : rdv st (.c v) = .lit v := (rfl)
@[go_sem] theorem h5r (n : Nat) : rdv st (.nl n) = .own n 0 [] := (rfl)
@[go_sem] theorem h8z (n : Nat) : rdv st (.g n) = .lit (.pointer (some ⟨n, 0, none⟩)) := (rfl)
@[go_sem] theorem h86 (n : Nat) : rdv st (.f n) = .fn n [] [] := (rfl)
end
def St.thru (st : St) (N d : Nat) (v : AV) : St := ((st.put N v).put N .dead).put d v
def St.sc (st : St) (N a b : Nat) : St := ⟨fun u => if u = N then .dead else if u = N + 1 then .dead else st.s u, fun u => if u = N then st.ep u + a else if u = N + 1 then st.ep u + b else st.ep u⟩
section
variable {st : St} {N d u t : Nat} {v : AV}
@[go_sem] theorem h6l : (st.put t v).s u = if u = t then v else st.s u := (rfl)
@[go_sem] theorem g8j : (st.put t v).ep u = if u = t then (if (a0e v).isSome then st.ep t + 1 else st.ep u) else st.ep u := by
  simp only [St.put_ep]; by_cases h : u = t <;> simp [h]
@[go_sem] theorem h69 : (st.set t v).s u = if u = t then v else st.s u := (rfl)
@[go_sem] theorem h2v : (st.set t v).ep u = st.ep u := (rfl)
@[go_sem] theorem g8p : (st.thru N d v).s u = if u = d then v else if u = N then .dead else st.s u := by
  simp only [St.thru, St.put_s]; by_cases h : u = d <;> by_cases h2 : u = N <;> simp [h, h2]
@[go_sem] theorem g7o : (st.thru N d v).ep u = if u = d then (if (a0e v).isSome then (if d = N then st.ep N + 1 else st.ep d) + 1 else st.ep u) else if u = N then (if (a0e v).isSome then st.ep N + 1 else st.ep N) else st.ep u := by
  have hd : (a0e AV.dead).isSome = false := rfl
  simp only [St.thru, St.put_ep, hd]
  by_cases h1 : u = d
  · subst h1
    by_cases h2 : (a0e v).isSome <;> by_cases h3 : u = N <;> simp [h2, h3]
  · by_cases h2 : (a0e v).isSome <;> by_cases h3 : u = N <;> simp [h1, h2, h3]
@[go_sem] theorem h82 {a b : Nat} : (st.sc N a b).s u = if u = N then .dead else if u = N + 1 then .dead else st.s u := (rfl)
@[go_sem] theorem h40 {a b : Nat} : (st.sc N a b).ep u = if u = N then st.ep u + a else if u = N + 1 then st.ep u + b else st.ep u := (rfl)
@[go_sem] theorem g73 : (st.clear N).s u = if u < N then st.s u else .dead := (rfl)
@[go_sem] theorem f9f : (st.clear N).ep u = st.ep u := (rfl)
@[go_sem] theorem g8h {q : List Nat} {o m : Nat} : (st.kill t q o m).s u = a02 (c2k t q o m) (st.s u) := (rfl)
@[go_sem] theorem g7p {q : List Nat} {o m : Nat} : (st.kill t q o m).ep u = st.ep u := (rfl)
theorem St.ext' {a b : St} (h1 : ∀ u, a.s u = b.s u) (h2 : ∀ u, a.ep u = b.ep u) : a = b := by
  cases a; cases b; simp only [St.mk.injEq]; exact ⟨funext h1, funext h2⟩
end
@[go_sem] theorem g2n (sz n : Nat) (ks : List AV) : a0e (.own sz n ks) = some ks := (rfl)
@[go_sem] theorem g2h (ks : List AV) : a0e (.var ks) = some ks := (rfl)
@[go_sem] theorem f9s (v : Value) : a0e (.lit v) = none := (rfl)
@[go_sem] theorem f4i : a0e .dead = none := (rfl)
@[go_sem] theorem g6q (n : Nat) (ks : List AV) : a0e (.sl n ks) = none := (rfl)
@[go_sem] theorem g6r (n : Nat) (ks : List AV) : a0e (.ip ks n) = none := (rfl)
@[go_sem] theorem f7a (ks : List AV) : a0e (.agg ks) = none := (rfl)
@[go_sem] theorem f8o (ks : List AV) : a0e (.tup ks) = none := (rfl)
@[go_sem] theorem g3u (T : TypeId) (k : AV) : a0e (.ifc T k) = none := (rfl)
@[go_sem] theorem g4m (f : FuncId) (a b : List AV) : a0e (.fn f a b) = none := (rfl)
@[go_sem] theorem g1a (t : Nat) (q : List Nat) (o e : Nat) : a0e (.ref t q o e) = none := (rfl)
@[go_sem] theorem g3h (t : Nat) (q : List Nat) (lo n e : Nat) : a0e (.bor t q lo n e) = none := (rfl)
attribute [go_sem] Option.isSome_some Option.isSome_none c6d c2k List.isPrefixOf a0j a1n a1e a4n.noRefL Bool.and_true Bool.true_and Bool.and_false Bool.false_and Bool.false_eq_true Bool.not_true Bool.not_false
section
variable {P : Program} {G : Nat → Option Value} {N : Nat} {K : St → Prop} {Q : Exit → St → Prop} {st : St} {d : Option Nat} {i : IOp} {rest : List AO}
def evS (G : Nat → Option Value) (N : Nat) (d : Option Nat) (i : IOp) (st : St) : Option St := ((a1c G N d i).run st).map (·.2)
@[congr] theorem f99 {st' : St} (h : st = st') : evS G N d i st = evS G N d i st' := by rw [h]
def oK (o : Option St) (K : St → Prop) : Prop := match o with
  | some st => K st
  | none => False
@[congr] theorem g70 {o o' : Option St} (h : o = o') : oK o K = oK o' K := by rw [h]
@[go_sem] theorem h0z : oK (some st) K = K st := (rfl)
@[go_sem] theorem h1s : oK none K = False := (rfl)
@[congr] theorem f3i {a a' : List AO} {st' : St} (h : a = a') (h2 : st = st') : b6q P G N a K st = b6q P G N a' K st' := by rw [h, h2]
@[congr] theorem g61 {ic : IC} {st' : St} (h2 : st = st') : AW P G N ic Q st = AW P G N ic Q st' := by rw [h2]
@[congr] theorem f2i {e : Exit} {st' : St} (h2 : st = st') : c50 K Q e st = c50 K Q e st' := by rw [h2]
@[congr] theorem e8z {id : Nat} {e : Exit} {st' : St} (h2 : st = st') : b99 id Q e st = b99 id Q e st' := by rw [h2]
@[congr] theorem e7x {e : Exit} {st' : St} (h2 : st = st') : b2y Q e st = b2y Q e st' := by rw [h2]
@[congr] theorem f5z {rs : List ResultVar} {res : AV} {e : Exit} {st' : St} (h2 : st = st') : f3m P N rs res e st = f3m P N rs res e st' := by rw [h2]
@[go_sem] theorem g79 : b6q P G N [] K st = K st := (rfl)
@[go_sem] theorem h0i : b6q P G N (⟨d, .op i, none⟩ :: rest) K st = oK (evS G N d i st) (b6q P G N rest K) := by
  simp only [b6q, b60, c80, evS]
  cases (a1c G N d i).run st <;> rfl
@[congr] theorem g25 {v v' : AV} (h : v = v') : nqK v d K st = nqK v' d K st := by rw [h]
@[go_sem] theorem g16 {T t yT : Nat} : b6q P G N (⟨d, .nilq T (.t t) yT, none⟩ :: rest) K st = nqK (st.s t) d (b6q P G N rest K) st := (rfl)
theorem h2g {d n : Nat} {ks : List AV} (h : ∀ b : Bool, (b = true → ks = []) → K (st.put d (.lit (.bool b)))) : nqK (.sl n ks) (some d) K st := h
def gOp (P : Program) (G : Nat → Option Value) (N : Nat) (v : AV) (want : Bool) (d : Option Nat) (act : IAct) (rest : List AO) (K : St → Prop) (st : St) : Prop := match v with
  | .lit (.bool b) => if b = want then b6q P G N (⟨d, act, none⟩ :: rest) K st else b6q P G N rest K (a67 d st)
  | .lit _ => b6q P G N rest K (a67 d st)
  | _ => False
section
variable {act : IAct}
@[congr] theorem g3y {v v' : AV} {w : Bool} (h : v = v') : gOp P G N v w d act rest K st = gOp P G N v' w d act rest K st := by rw [h]
@[go_sem] theorem h66 : gOp P G N (.lit (.bool true)) true d act rest K st = b6q P G N (⟨d, act, none⟩ :: rest) K st := (rfl)
@[go_sem] theorem h7o : gOp P G N (.lit (.bool true)) false d act rest K st = b6q P G N rest K (a67 d st) := (rfl)
@[go_sem] theorem h58 : gOp P G N (.lit (.bool false)) true d act rest K st = b6q P G N rest K (a67 d st) := (rfl)
@[go_sem] theorem h4j : gOp P G N (.lit (.bool false)) false d act rest K st = b6q P G N (⟨d, act, none⟩ :: rest) K st := (rfl)
@[go_sem] theorem h7y {w : Bool} : gOp P G N (.lit undef) w d act rest K st = b6q P G N rest K (a67 d st) := (rfl)
@[go_sem] theorem h61 {j t : Nat} {want : Bool} : b6q P G N (⟨d, act, some (j, t, want)⟩ :: rest) K st = gOp P G N (st.s t) want d act rest K st := by
  simp only [b6q, b60, gOp]
  cases st.s t <;> try rfl
  rename_i v
  cases v <;> simp [d5u, b6q, b60]
end
theorem d39 {act : IAct} {b w : Bool} (h1 : b = w → b6q P G N (⟨d, act, none⟩ :: rest) K st) (h2 : b = !w → b6q P G N rest K (a67 d st)) : gOp P G N (.lit (.bool b)) w d act rest K st := by
  cases b <;> cases w <;> first | exact h1 rfl | exact h2 rfl
@[go_sem] theorem f2w {t : Nat} : a67 (some t) st = st.put t (.lit undef) := (rfl)
@[go_sem] theorem f3n : a67 none st = st := (rfl)
@[go_sem] theorem h2x : AW P G N .skip Q st = Q .normal st := (rfl)
@[go_sem] theorem h7c {ios : List AO} : AW P G N (.reg ios) Q st = b6q P G N ios (Q .normal) st := (rfl)
@[go_sem] theorem h47 {a b : IC} : AW P G N (.seq a b) Q st = AW P G N a (c50 (AW P G N b Q) Q) st := (rfl)
@[go_sem] theorem g47 {id : Nat} {a : IC} : AW P G N (.block id a) Q st = AW P G N a (b99 id Q) st := (rfl)
@[go_sem] theorem g4b {a : IC} : AW P G N (.scope a) Q st = AW P G N a (b2y Q) st := (rfl)
@[go_sem] theorem g8r {id : Nat} : AW P G N (.exit id) Q st = Q (.exit id) st := (rfl)
@[go_sem] theorem g5i {id : Nat} : AW P G N (.label id) Q st = Q .normal st := (rfl)
@[go_sem] theorem h7p : AW P G N .ret Q st = Q .ret st := (rfl)
def cAW (P : Program) (G : Nat → Option Value) (N : Nat) (v : AV) (x y : IC) (Q : Exit → St → Prop) (st : St) : Prop := match v with
  | .lit (.bool b) => if b = true then AW P G N x Q st else AW P G N y Q st
  | _ => False
section
variable {x y : IC}
@[congr] theorem f8j {v v' : AV} (h : v = v') : cAW P G N v x y Q st = cAW P G N v' x y Q st := by rw [h]
@[go_sem] theorem h8j : cAW P G N (.lit (.bool true)) x y Q st = AW P G N x Q st := (rfl)
@[go_sem] theorem h8i : cAW P G N (.lit (.bool false)) x y Q st = AW P G N y Q st := (rfl)
@[go_sem] theorem h1m {t : Nat} : AW P G N (.cond (.t t) x y) Q st = cAW P G N (if t < N then st.s t else .dead) x y Q st := by
  simp only [AW, e4z]
  by_cases h : t < N
  · simp only [h, if_true]
    cases hs : st.s t <;> simp only [cAW]
    rename_i v
    cases v <;> simp only [cAW]
    rename_i b
    cases b <;> simp
  · simp [h, cAW]
@[go_sem] theorem g7s {b : Bool} : AW P G N (.cond (.c (.bool b)) x y) Q st = cAW P G N (.lit (.bool b)) x y Q st := by
  cases b <;> simp [AW, e4z, cAW]
end
@[go_sem] theorem h0j : c50 K Q .normal st = K st := (rfl)
@[go_sem] theorem h2y {id : Nat} : c50 K Q (.exit id) st = Q (.exit id) st := (rfl)
@[go_sem] theorem h2r : c50 K Q .ret st = Q .ret st := (rfl)
@[go_sem] theorem g46 {id : Nat} : b99 id Q .normal st = Q .normal st := (rfl)
@[go_sem] theorem g4e {id : Nat} : b99 id Q .ret st = Q .ret st := (rfl)
@[go_sem] theorem g5p {id id' : Nat} : b99 id Q (.exit id') st = if id' = id then Q .normal st else Q (.exit id') st := (rfl)
@[go_sem] theorem g0o : b2y Q .normal st = Q .normal st := (rfl)
@[go_sem] theorem g3s : b2y Q .ret st = Q .ret st := (rfl)
@[go_sem] theorem g2a {id : Nat} : b2y Q (.exit id) st = Q (.exit id) st := (rfl)
@[go_sem] theorem h7i {rs : List ResultVar} {res : AV} : f3m P N rs res .normal st = (c4g P N st rs = some res) := (rfl)
@[go_sem] theorem h6m {rs : List ResultVar} {res : AV} : f3m P N rs res .ret st = (c4g P N st rs = some res) := (rfl)
end
end Go.Ideal
end
section
set_option linter.unusedVariables false
set_option linter.unusedSimpArgs false
namespace Go.Ideal
def gO {α : Type} (p : Prop) [Decidable p] (o : Option α) : Option α := if p then o else none
theorem f7h {α : Type} {p : Prop} [Decidable p] {o : Option α} (h : p) : gO p o = o := by simp [gO, h]
@[congr] theorem g7y {α : Type} {p p' : Prop} [Decidable p] [Decidable p'] {o : Option α} (h : p = p') : gO p o = gO p' o := by subst h; simp only [gO]; split <;> rfl
@[go_sem] theorem h0e {α : Type} [Decidable True] {o : Option α} : gO True o = o := by simp [gO]
def c3k (st : St) (d : Nat) (o : Option AV) : Option St := match o with
  | some v => some (st.put d v)
  | none => none
@[congr] theorem f6g {st : St} {d : Nat} {o o' : Option AV} (h : o = o') : c3k st d o = c3k st d o' := by rw [h]
@[go_sem] theorem f7r {st : St} {d : Nat} {v : AV} : c3k st d (some v) = some (st.put d v) := (rfl)
section
variable {G : Nat → Option Value} {N d : Nat} {st : St}
def mvS (st : St) (d : Nat) (x : X) (v : AV) : Option St := match v with
  | .own _ n _ => match x with
    | .t t => some (st.put d (.bor t [] 0 n (st.ep t)))
    | _ => some (st.put d (.sl 0 []))
  | .var _ => match x with
    | .t t => some (st.put d (.ref t [] 0 (st.ep t)))
    | _ => none
  | .dead => none
  | v => if a0l v then some (st.put d v) else match x with
    | .t t => some ((st.set t (frz v)).put d (frz v))
    | _ => none
@[congr] theorem f7i {x : X} {v v' : AV} (h : v = v') : mvS st d x v = mvS st d x v' := by rw [h]
@[go_sem] theorem f97 (x : X) : evS G N (some d) (.mv x) st = mvS st d x (rdv st x) := by
  simp only [evS, a1c, mvE, Ev.run_bind, a0r, Option.bind]
  cases x <;> simp only [rdv, rde, mvS, Ev.run_bind, Ev.run, setD, a3h, Option.map, a0l, if_true]
  rename_i t
  cases h : st.s t <;> simp only [mvS, Ev.run, Ev.run_bind, setD, a3h, c5o, c7z, Option.bind] <;> (try rfl)
  all_goals (generalize a0l _ = b; cases b <;> rfl)
@[go_sem] theorem h1i {t n sz : Nat} {ks : List AV} : mvS st d (.t t) (.own sz n ks) = some (st.put d (.bor t [] 0 n (st.ep t))) := (rfl)
@[go_sem] theorem h5u {n sz : Nat} {ks : List AV} {k : Nat} : mvS st d (.nl k) (.own sz n ks) = some (st.put d (.sl 0 [])) := (rfl)
@[go_sem] theorem h3i {t : Nat} {ks : List AV} : mvS st d (.t t) (.var ks) = some (st.put d (.ref t [] 0 (st.ep t))) := (rfl)
@[go_sem] theorem h31 {x : X} {v : Value} : mvS st d x (.lit v) = some (st.put d (.lit v)) := (rfl)
@[go_sem] theorem h67 {x : X} {n : Nat} {ks : List AV} : mvS st d x (.sl n ks) = some (st.put d (.sl n ks)) := (rfl)
@[go_sem] theorem h6t {x : X} {n : Nat} {ks : List AV} : mvS st d x (.ip ks n) = some (st.put d (.ip ks n)) := (rfl)
@[go_sem] theorem h50 {x : X} {f : FuncId} {a b : List AV} : mvS st d x (.fn f a b) = some (st.put d (.fn f a b)) := (rfl)
@[go_sem] theorem g9d {x : X} {t : Nat} {q : List Nat} {o e : Nat} : mvS st d x (.ref t q o e) = some (st.put d (.ref t q o e)) := (rfl)
@[go_sem] theorem h33 {x : X} {t : Nat} {q : List Nat} {lo n e : Nat} : mvS st d x (.bor t q lo n e) = some (st.put d (.bor t q lo n e)) := (rfl)
def iO (b : Bool) (x y : Option St) : Option St := if b then x else y
@[congr] theorem g8b {b b' : Bool} {x y : Option St} (h : b = b') : iO b x y = iO b' x y := by rw [h]
@[go_sem] theorem h9b {x y : Option St} : iO true x y = x := (rfl)
@[go_sem] theorem h9r {x y : Option St} : iO false x y = y := (rfl)
@[go_sem] theorem h0m {t : Nat} {ks : List AV} : mvS st d (.t t) (.agg ks) = iO (a0j ks) (some (st.put d (.agg ks))) (some ((st.set t (.agg (a1n ks))).put d (.agg (a1n ks)))) := (rfl)
@[go_sem] theorem h2w {t : Nat} {ks : List AV} : mvS st d (.t t) (.tup ks) = iO (a0j ks) (some (st.put d (.tup ks))) (some ((st.set t (.tup (a1n ks))).put d (.tup (a1n ks)))) := (rfl)
@[go_sem] theorem g9j {t : Nat} {T : TypeId} {k : AV} : mvS st d (.t t) (.ifc T k) = iO (a0l k) (some (st.put d (.ifc T k))) (some ((st.set t (.ifc T (frz k))).put d (.ifc T (frz k)))) := (rfl)
def e9d (st : St) (N d t : Nat) (q : List Nat) (lo n : Nat) (k : Option AV) : Option St := match k with
  | some (.own sz n0 ks) => gO (t < N ∧ lo + n ≤ n0) (iO (q.isEmpty && lo == 0) (some ((st.put t .dead).thru N d (.own sz n (ks.take (n * sz))))) (some ((st.set t (a0s (st.s t) q (frz (.own sz n0 ks)))).put d (.sl n (((a1n ks).drop (lo * sz)).take (n * sz))))))
  | _ => none
@[congr] theorem f5c {t : Nat} {q : List Nat} {lo n : Nat} {k k' : Option AV} (h : k = k') : e9d st N d t q lo n k = e9d st N d t q lo n k' := by rw [h]
@[go_sem] theorem g4z {t : Nat} {q : List Nat} {lo n sz n0 : Nat} {ks : List AV} : e9d st N d t q lo n (some (.own sz n0 ks)) = gO (t < N ∧ lo + n ≤ n0) (iO (q.isEmpty && lo == 0) (some ((st.put t .dead).thru N d (.own sz n (ks.take (n * sz))))) (some ((st.set t (a0s (st.s t) q (frz (.own sz n0 ks)))).put d (.sl n (((a1n ks).drop (lo * sz)).take (n * sz)))))) := (rfl)
def a2r (st : St) (t : Nat) (q : List Nat) (e : Nat) : Option AV := if e = st.ep t then a0c (st.s t) q else none
def eN (b : Bool) (k : Option AV) : Option AV := if b then k else none
@[go_sem] theorem h9k (k : Option AV) : eN true k = k := (rfl)
@[go_sem] theorem g62 {t : Nat} {q : List Nat} {e : Nat} : a2r st t q e = eN (e == st.ep t) (a0c (st.s t) q) := by
  simp only [a2r, eN]; by_cases h : e = st.ep t <;> simp [h]
@[congr] theorem g7e {b b' : Bool} {k k' : Option AV} (h : b = b') (h2 : k = k') : eN b k = eN b' k' := by rw [h, h2]
@[go_sem] theorem f3v {v : AV} : a0c v [] = some v := (rfl)
def e3h (k : Option AV) (q : List Nat) : Option AV := match k with
  | some k => a0c k q
  | none => none
@[go_sem] theorem f5f {k : AV} {q : List Nat} : e3h (some k) q = a0c k q := (rfl)
@[go_sem] theorem f4c {sz n i : Nat} {ks : List AV} {q : List Nat} : a0c (.own sz n ks) (i :: q) = e3h ks[i]? q := by
  simp only [a0c, a0e, e3h]
  cases ks[i]? <;> rfl
@[go_sem] theorem f5n {i : Nat} {ks : List AV} {q : List Nat} : a0c (.var ks) (i :: q) = e3h ks[i]? q := by
  simp only [a0c, a0e, e3h]
  cases ks[i]? <;> rfl
@[go_sem] theorem e9p {v k : AV} : a0s v [] k = k := (rfl)
def f9w (k : Option AV) (q : List Nat) (k' : AV) : AV := match k with
  | some k => a0s k q k'
  | none => .dead
@[go_sem] theorem f9p {k k' : AV} {q : List Nat} : f9w (some k) q k' = a0s k q k' := (rfl)
theorem d0k {ks : List AV} {i : Nat} {v : AV} (h : ks[i]? = none) : ks.set i v = ks := by
  apply List.set_eq_of_length_le; simpa using h
@[go_sem] theorem e97 {sz n i : Nat} {ks : List AV} {q : List Nat} {k' : AV} : a0s (.own sz n ks) (i :: q) k' = .own sz n (ks.set i (f9w ks[i]? q k')) := by
  simp only [a0s, a0e, f9w]
  cases h : ks[i]? with
  | none => simp [d0k h]
  | some k => rfl
@[go_sem] theorem f1u {i : Nat} {ks : List AV} {q : List Nat} {k' : AV} : a0s (.var ks) (i :: q) k' = .var (ks.set i (f9w ks[i]? q k')) := by
  simp only [a0s, a0e, f9w]
  cases h : ks[i]? with
  | none => simp [d0k h]
  | some k => rfl
def h0o (st : St) (N d : Nat) (x : X) (v : AV) : Option St := if a0l v then some (st.put d v) else match x with
    | .t t => some ((st.put t .dead).thru N d v)
    | _ => some (st.thru N d v)
def d3e (st : St) (N d : Nat) (x : X) (v : AV) : Option St := match v with
  | .dead => none
  | .bor t q lo n e => e9d st N d t q lo n (a2r st t q e)
  | v => h0o st N d x v
@[congr] theorem f4n {x : X} {v v' : AV} (h : v = v') : d3e st N d x v = d3e st N d x v' := by rw [h]
theorem a82 {v : AV} : (a4e N (some d) v).run st = some ((), st.thru N d v) := rfl
@[go_sem] theorem f0x (x : X) : evS G N (some d) (.asg x) st = d3e st N d x (rdv st x) := by
  have key : ∀ (v : AV) (e : Nat), ((match v with
      | .dead => Ev.fail
      | .bor t q lo n e => do
        let r2 ← c24 t
        a0i (e == r2.2 && decide (t < N))
        let k ← a4o (a0c r2.1 q)
        match k with
        | .own sz n0 ks => do
          a0i (decide (lo + n ≤ n0))
          if q.isEmpty && lo == 0 then do
            a3h t .dead
            a4e N (some d) (.own sz n (ks.take (n * sz)))
          else do
            c5o t (a0s r2.1 q (frz k))
            setD (some d) (.sl n (((a1n ks).drop (lo * sz)).take (n * sz)))
        | _ => .fail
      | v => b3d N (some d) x v : Ev Unit).run st).map (·.2) = d3e st N d x v := by
    intro v e
    have tail : ∀ v : AV, (∀ t q lo n e, v ≠ .bor t q lo n e) → v ≠ .dead → ((b3d N (some d) x v).run st).map (·.2) = h0o st N d x v := by
      intro v _ _
      cases x <;> simp only [b3d, h0o] <;> (split <;> rfl)
    cases v <;> (try (exact tail _ (by simp) (by simp)))
    · rfl
    · rename_i t q lo n e'
      simp only [d3e, a2r, Ev.run_bind, a1i, Option.bind]
      by_cases he : e' = st.ep t
      · subst he
        by_cases ht : t < N
        · simp only [beq_self_eq_true, ht, decide_true, Bool.and_self, a0i, if_true, Ev.run, a00]
          cases hk : a0c (st.s t) q with
          | none => rfl
          | some k =>
            simp only [Option.map]
            cases k <;> try rfl
            rename_i sz n0 ks
            simp only [e9d, gO, iO, ht, true_and, Ev.run_bind, a0d, Option.bind]
            by_cases hl : lo + n ≤ n0
            · simp only [hl, decide_true, if_true]
              generalize (q.isEmpty && lo == 0) = b
              cases b <;> rfl
            · simp only [hl, decide_false, Bool.false_eq_true, if_false]
              rfl
        · simp only [ht, decide_false, Bool.and_false, a0i, Bool.false_eq_true, if_false, Ev.run, if_true]
          cases a0c (st.s t) q with
          | none => rfl
          | some k => cases k <;> simp [e9d, gO, ht]
      · have : (e' == st.ep t) = false := by simpa using he
        simp only [this, Bool.false_and, a0i, Bool.false_eq_true, if_false, Ev.run, he, e9d, Option.map]
  simp only [evS, a1c, f4a, Ev.run_bind, a0r, Option.bind]
  exact key _ 0
@[go_sem] theorem g9y (x : X) : evS G N (some d) (.mvf x) st = mvS st d x (rdv st x) := f97 (G := G) (N := N) x
@[go_sem] theorem h3q (x : X) : evS G N (some d) (.mva x) st = d3e st N d x (rdv st x) := f0x (G := G) x
@[go_sem] theorem g4s {x : X} {v : Value} : d3e st N d x (.lit v) = some (st.put d (.lit v)) := (rfl)
@[go_sem] theorem h1y {x : X} {n : Nat} {ks : List AV} : d3e st N d x (.sl n ks) = some (st.put d (.sl n ks)) := (rfl)
@[go_sem] theorem h25 {x : X} {n : Nat} {ks : List AV} : d3e st N d x (.ip ks n) = some (st.put d (.ip ks n)) := (rfl)
@[go_sem] theorem g8n {x : X} {f : FuncId} {a b : List AV} : d3e st N d x (.fn f a b) = some (st.put d (.fn f a b)) := (rfl)
@[go_sem] theorem g5l {x : X} {t : Nat} {q : List Nat} {o e : Nat} : d3e st N d x (.ref t q o e) = some (st.put d (.ref t q o e)) := (rfl)
@[go_sem] theorem g5q {x : X} {t : Nat} {q : List Nat} {lo n e : Nat} : d3e st N d x (.bor t q lo n e) = e9d st N d t q lo n (a2r st t q e) := (rfl)
@[go_sem] theorem g67 {t sz n : Nat} {ks : List AV} : d3e st N d (.t t) (.own sz n ks) = some ((st.put t .dead).thru N d (.own sz n ks)) := (rfl)
@[go_sem] theorem g8w {k sz n : Nat} {ks : List AV} : d3e st N d (.nl k) (.own sz n ks) = some (st.thru N d (.own sz n ks)) := (rfl)
@[go_sem] theorem g5d {t : Nat} {ks : List AV} : d3e st N d (.t t) (.var ks) = some ((st.put t .dead).thru N d (.var ks)) := (rfl)
@[go_sem] theorem g51 {t : Nat} {ks : List AV} : d3e st N d (.t t) (.agg ks) = iO (a0j ks) (some (st.put d (.agg ks))) (some ((st.put t .dead).thru N d (.agg ks))) := (rfl)
@[go_sem] theorem g5r {t : Nat} {ks : List AV} : d3e st N d (.t t) (.tup ks) = iO (a0j ks) (some (st.put d (.tup ks))) (some ((st.put t .dead).thru N d (.tup ks))) := (rfl)
@[go_sem] theorem g45 {t : Nat} {T : TypeId} {k : AV} : d3e st N d (.t t) (.ifc T k) = iO (a0l k) (some (st.put d (.ifc T k))) (some ((st.put t .dead).thru N d (.ifc T k))) := (rfl)
end
end Go.Ideal
end
section
set_option linter.unusedVariables false
set_option linter.unusedSimpArgs false
namespace Go.Ideal
section
variable {G : Nat → Option Value} {N d : Nat} {st : St}
@[go_sem] theorem h22 {b : BinOp} {T kd : Nat} {x y : X} {yT : TypeId} : evS G N (some d) (.bin b T kd x y yT) st = c3k st d (a1o b kd (rdv st x) (rdv st y)) := by
  simp only [evS, a1c, Ev.run_bind, a0r, Option.bind, a00]
  cases a1o b kd (rdv st x) (rdv st y) <;> rfl
theorem a7l (x : X) : (d5e x).run st = match rdv st x with | .lit v => some (v, st) | _ => none := by
  simp only [d5e, Ev.run_bind, a0r, Option.bind]
  cases rdv st x <;> rfl
def f5r (v : AV) : Option Value := match v with | .lit v => some v | _ => none
@[go_sem] theorem g64 {v : Value} : f5r (.lit v) = some v := (rfl)
theorem d67 (x : X) : (d5e x).run st = (f5r (rdv st x)).map fun v => (v, st) := by
  rw [a7l]; cases rdv st x <;> rfl
def unO (u : UnOp) (v : AV) : Option AV := match v with
  | .lit v => (a5u (Op.unary u v)).map .lit
  | _ => none
@[congr] theorem f9k {u : UnOp} {v v' : AV} (h : v = v') : unO u v = unO u v' := by rw [h]
@[go_sem] theorem h60 {u : UnOp} {T : TypeId} {x : X} : evS G N (some d) (.un u T x) st = c3k st d (unO u (rdv st x)) := by
  simp only [evS, a1c, Ev.run_bind, a7l, Option.bind]
  cases rdv st x <;> try rfl
  rename_i v
  simp only [unO, a00]
  cases a5u (Op.unary u v) <;> rfl
@[go_sem] theorem g9q {b : Bool} : unO .not (.lit (.bool b)) = some (.lit (.bool !b)) := (rfl)
def e8a (c x y : AV) : Option AV := match c with
  | .lit c => e1r c x y
  | _ => none
@[go_sem] theorem g49 {c x y : X} : evS G N (some d) (.pick c x y) st = c3k st d (e8a (rdv st c) (rdv st x) (rdv st y)) := by
  simp only [evS, a1c, Ev.run_bind, a7l, Option.bind, a0r]
  cases rdv st c <;> try rfl
  simp only [a0r, e8a, a00]
  rename_i v
  cases e1r v (rdv st x) (rdv st y) <;> rfl
@[go_sem] theorem g9v {u : Value} {y : AV} : e8a (.lit (.bool true)) (.lit u) y = some (.lit u) := by cases y <;> rfl
@[go_sem] theorem h04 {u : Value} {x : AV} : e8a (.lit (.bool false)) x (.lit u) = some (.lit u) := by cases x <;> rfl
@[go_sem] theorem g15 {T : TypeId} {zs : List AV} : evS G N (some d) (.alloc T zs) st = some (st.thru N d (.var zs)) := (rfl)
def f2u (lo n : Nat) (k : Option AV) : Option AV := match k with
  | some (.own _ n0 _) => gO (lo + n ≤ n0) (some (.lit (.int .i64 n)))
  | _ => none
@[congr] theorem f4m {lo n : Nat} {k k' : Option AV} (h : k = k') : f2u lo n k = f2u lo n k' := by rw [h]
@[go_sem] theorem g8a {lo n sz n0 : Nat} {ks : List AV} : f2u lo n (some (.own sz n0 ks)) = gO (lo + n ≤ n0) (some (.lit (.int .i64 n))) := (rfl)
def f0p (st : St) (x : X) (v : AV) : Option AV := match v with
  | .sl n _ => some (.lit (.int .i64 n))
  | .own _ n _ => some (.lit (.int .i64 n))
  | .bor t q lo n e => f2u lo n (a2r st t q e)
  | _ => none
@[congr] theorem f3l {x : X} {v v' : AV} (h : v = v') : f0p st x v = f0p st x v' := by rw [h]
theorem e5i {t : Nat} {q : List Nat} {e : Nat} (h : e = st.ep t) : a2r st t q e = a0c (st.s t) q := by simp [a2r, h]
theorem e4o {t : Nat} {q : List Nat} {e : Nat} (h : ¬ e = st.ep t) : a2r st t q e = none := by simp [a2r, h]
@[go_sem] theorem h09 {T : TypeId} {x : X} : evS G N (some d) (.len T false x) st = c3k st d (f0p st x (rdv st x)) := by
  simp only [evS, a1c, Ev.run_bind, a0r, Option.bind]
  cases hv : rdv st x <;> simp only [a9c, Ev.run_bind, a0r, hv, Option.bind, Ev.run] <;> try rfl
  rename_i t q lo n e
  simp only [f0p, a1i]
  by_cases he : e = st.ep t
  · simp only [he, beq_self_eq_true, a0i, if_true, Ev.run, Ev.run_pure, e3t, Ev.run_bind, a1i, Option.bind, a00, e5i]
    cases hk : a0c (st.s t) q with
    | none => rfl
    | some k =>
      cases k <;> try rfl
      rename_i sz n0 ks
      simp only [f2u, gO, Option.map, Ev.run_bind, a0d, Option.bind]
      by_cases hl : lo + n ≤ n0
      · simp only [hl, decide_true, if_true]; rfl
      · simp only [hl, decide_false, Bool.false_eq_true, if_false]; rfl
  · have : (e == st.ep t) = false := by simpa using he
    simp only [this, a0i, Bool.false_eq_true, if_false, Ev.run, e4o he]
    rfl
@[go_sem] theorem g83 {x : X} {n : Nat} {ks : List AV} : f0p st x (.sl n ks) = some (.lit (.int .i64 n)) := (rfl)
@[go_sem] theorem g6z {x : X} {sz n : Nat} {ks : List AV} : f0p st x (.own sz n ks) = some (.lit (.int .i64 n)) := (rfl)
@[go_sem] theorem g6l {x : X} {t : Nat} {q : List Nat} {lo n e : Nat} : f0p st x (.bor t q lo n e) = f2u lo n (a2r st t q e) := (rfl)
def h49 (v : AV) : Option AV := match v with
  | .lit (.string s) => some (.lit (.int .i64 s.size))
  | _ => none
@[go_sem] theorem h7g {s : ByteArray} : h49 (.lit (.string s)) = some (.lit (.int .i64 s.size)) := (rfl)
@[go_sem] theorem f6f {T : TypeId} {x : X} : evS G N (some d) (.len T true x) st = c3k st d (h49 (rdv st x)) := by
  simp only [evS, a1c, Ev.run_bind, a7l, Option.bind]
  cases rdv st x <;> try rfl
  rename_i v
  cases v <;> rfl
@[go_sem] theorem f8n {v : AV} : a32 v [] = a0e v := by cases v <;> rfl
def g1p (k : Option AV) (q : List Nat) : Option (List AV) := match k with
  | some k => a32 k q
  | none => none
@[go_sem] theorem g2k {k : AV} {q : List Nat} : g1p (some k) q = a32 k q := (rfl)
@[go_sem] theorem f9v {sz n i : Nat} {ks : List AV} {q : List Nat} : a32 (.own sz n ks) (i :: q) = g1p ks[i]? q := by
  simp only [a32, a0e, g1p]; cases ks[i]? <;> rfl
@[go_sem] theorem g2d {i : Nat} {ks : List AV} {q : List Nat} : a32 (.var ks) (i :: q) = g1p ks[i]? q := by
  simp only [a32, a0e, g1p]; cases ks[i]? <;> rfl
@[go_sem] theorem f4b {sz n : Nat} {ks ks' : List AV} : setRow (.own sz n ks) [] ks' = .own sz n ks' := (rfl)
@[go_sem] theorem f4x {ks ks' : List AV} : setRow (.var ks) [] ks' = .var ks' := (rfl)
def e3x (k : Option AV) (q : List Nat) (ks' : List AV) : AV := match k with
  | some k => setRow k q ks'
  | none => .dead
@[go_sem] theorem f6b {k : AV} {q : List Nat} {ks' : List AV} : e3x (some k) q ks' = setRow k q ks' := (rfl)
@[go_sem] theorem f2c {sz n i : Nat} {ks : List AV} {q : List Nat} {ks' : List AV} : setRow (.own sz n ks) (i :: q) ks' = .own sz n (ks.set i (e3x ks[i]? q ks')) := by
  simp only [setRow, a0e, e3x]
  cases h : ks[i]? with
  | none => simp [d0k h]
  | some k => rfl
@[go_sem] theorem f06 {i : Nat} {ks : List AV} {q : List Nat} {ks' : List AV} : setRow (.var ks) (i :: q) ks' = .var (ks.set i (e3x ks[i]? q ks')) := by
  simp only [setRow, a0e, e3x]
  cases h : ks[i]? with
  | none => simp [d0k h]
  | some k => rfl
def eR (b : Bool) (k : Option (List AV)) : Option (List AV) := if b then k else none
@[congr] theorem g74 {b b' : Bool} {k k' : Option (List AV)} (h : b = b') (h2 : k = k') : eR b k = eR b' k' := by rw [h, h2]
@[go_sem] theorem h9n (k : Option (List AV)) : eR true k = k := (rfl)
def ptO (t : Nat) (q : List Nat) (o : Nat) (r : Option (List AV)) : Option (Nat × List Nat × Nat × List AV) := match r with
  | some ks => gO (o < ks.length) (some (t, q, o, ks))
  | none => none
@[go_sem] theorem g4f {t : Nat} {q : List Nat} {o : Nat} {ks : List AV} : ptO t q o (some ks) = gO (o < ks.length) (some (t, q, o, ks)) := (rfl)
def b1q (st : St) (x : X) (v : AV) : Option (Nat × List Nat × Nat × List AV) := match v with
  | .var ks => match x with
    | .t t => ptO t [] 0 (some ks)
    | _ => none
  | .ref t q o e => ptO t q o (eR (e == st.ep t) (a32 (st.s t) q))
  | _ => none
@[congr] theorem f6s {x : X} {v v' : AV} (h : v = v') : b1q st x v = b1q st x v' := by rw [h]
@[go_sem] theorem g5u {t : Nat} {ks : List AV} : b1q st (.t t) (.var ks) = gO (0 < ks.length) (some (t, [], 0, ks)) := (rfl)
@[go_sem] theorem g4w {x : X} {t : Nat} {q : List Nat} {o e : Nat} : b1q st x (.ref t q o e) = ptO t q o (eR (e == st.ep t) (a32 (st.s t) q)) := (rfl)
theorem b9n (x : X) : (e6a x).run st = (b1q st x (rdv st x)).map fun r => ((r.1, r.2.1, r.2.2.1, st.s r.1, st.ep r.1, r.2.2.2), st) := by
  simp only [e6a, d8l, Ev.run_bind, a0r, Option.bind]
  cases x with
  | t n =>
    simp only [rdv]
    cases hv : st.s n <;> simp only [c7z, Ev.run, Ev.run_bind, Ev.run_pure, Option.bind, a1i, b1q, a00, Option.map] <;> try rfl
    · rename_i ks
      have h2 : a32 (AV.var ks) [] = some ks := rfl
      simp only [hv, h2, ptO, gO, a0d]
      by_cases hl : 0 < ks.length
      · simp only [hl, decide_true, if_true, hv]
      · simp only [hl, decide_false, Bool.false_eq_true, if_false]
    · rename_i t q o e
      by_cases he : e = st.ep t
      · simp only [he, beq_self_eq_true, a0i, if_true, Ev.run, Ev.run_pure, eR]
        cases hk : a32 (st.s t) q with
        | none => rfl
        | some ks =>
          simp only [ptO, gO]
          by_cases hl : o < ks.length
          · simp only [hl, decide_true, if_true, Ev.run]
          · simp only [hl, decide_false, Bool.false_eq_true, if_false, Ev.run]
      · have : (e == st.ep t) = false := by simpa using he
        simp only [this, a0i, Bool.false_eq_true, if_false, Ev.run, eR, ptO]
  | c v => rfl
  | nl n => rfl
  | g n => rfl
  | f n => rfl
def ldK (st : St) (t : Nat) (q : List Nat) (o : Nat) (k : Option AV) : Option AV := match k with
  | some (.own _ n _) => some (.bor t (q ++ [o]) 0 n (st.ep t))
  | some k => if a0l k then some k else none
  | none => none
@[congr] theorem g30 {t : Nat} {q : List Nat} {o : Nat} {k k' : Option AV} (h : k = k') : ldK st t q o k = ldK st t q o k' := by rw [h]
section
variable {t : Nat} {q : List Nat} {o : Nat}
@[go_sem] theorem g9s {sz n : Nat} {ks : List AV} : ldK st t q o (some (.own sz n ks)) = some (.bor t (q ++ [o]) 0 n (st.ep t)) := (rfl)
@[go_sem] theorem h05 {v : Value} : ldK st t q o (some (.lit v)) = some (.lit v) := (rfl)
@[go_sem] theorem h5p {n : Nat} {ks : List AV} : ldK st t q o (some (.sl n ks)) = some (.sl n ks) := (rfl)
@[go_sem] theorem h7a {n : Nat} {ks : List AV} : ldK st t q o (some (.ip ks n)) = some (.ip ks n) := (rfl)
@[go_sem] theorem h6a {f : FuncId} {a b : List AV} : ldK st t q o (some (.fn f a b)) = some (.fn f a b) := (rfl)
@[go_sem] theorem g22 {T : TypeId} {n : Nat} {ks : List AV} : ldK st t q o (some (.ifc T (.ip ks n))) = some (.ifc T (.ip ks n)) := (rfl)
end
def ldS (st : St) (d : Nat) (r : Option (Nat × List Nat × Nat × List AV)) : Option St := match r with
  | some (t, q, o, ks) => c3k st d (ldK st t q o ks[o]?)
  | none => none
@[congr] theorem g0y {r r' : Option (Nat × List Nat × Nat × List AV)} (h : r = r') : ldS st d r = ldS st d r' := by rw [h]
@[go_sem] theorem g55 {t : Nat} {q : List Nat} {o : Nat} {ks : List AV} : ldS st d (some (t, q, o, ks)) = c3k st d (ldK st t q o ks[o]?) := (rfl)
def ipK (k : Option AV) : Option AV := match k with
  | some k => if a0l k then some k else none
  | none => none
@[go_sem] theorem h1f {v : Value} : ipK (some (.lit v)) = some (.lit v) := (rfl)
@[go_sem] theorem h4e {n : Nat} {ks : List AV} : ipK (some (.sl n ks)) = some (.sl n ks) := (rfl)
@[go_sem] theorem h7k {n : Nat} {ks : List AV} : ipK (some (.ip ks n)) = some (.ip ks n) := (rfl)
@[go_sem] theorem h5b {f : FuncId} {a b : List AV} : ipK (some (.fn f a b)) = some (.fn f a b) := (rfl)
@[go_sem] theorem f9g {T : TypeId} {n : Nat} {ks : List AV} : ipK (some (.ifc T (.ip ks n))) = some (.ifc T (.ip ks n)) := (rfl)
def d3f (G : Nat → Option Value) (st : St) (d : Nat) (x : X) (v : AV) : Option St := match v with
  | .lit (.pointer (some ⟨g, 0, none⟩)) => c3k st d ((G g).map .lit)
  | .ip ks off => c3k st d (ipK ks[off]?)
  | v => ldS st d (b1q st x v)
@[congr] theorem f0h {x : X} {v v' : AV} (h : v = v') : d3f G st d x v = d3f G st d x v' := by rw [h]
theorem e5m (x : X) : ((d6n (some d) none x).run st).map (·.2) = ldS st d (b1q st x (rdv st x)) := by
  simp only [d6n, Ev.run_bind, b9n, Option.bind, ldS]
  cases b1q st x (rdv st x) with
  | none => rfl
  | some r =>
    obtain ⟨t, q, o, ks⟩ := r
    simp only [Option.map, a00]
    cases ks[o]? with
    | none => rfl
    | some k =>
      simp only
      cases k <;> simp only [c3x, ldK, Ev.run_bind, a0d, Option.bind] <;> first | rfl | (generalize a0l _ = b; cases b <;> rfl)
@[go_sem] theorem g59 {T : TypeId} {x : X} : evS G N (some d) (.load T none x) st = d3f G st d x (rdv st x) := by
  simp only [evS, a1c, Ev.run_bind, a0r, Option.bind]
  have h := e5m (d := d) (st := st) x
  cases hv : rdv st x <;> rw [hv] at h <;> try exact h
  · rename_i v
    unfold d3f
    split <;> split <;> simp_all
    generalize G _ = r
    cases r <;> rfl
  · rename_i ks off
    simp only [d3f, Ev.run_bind, a00, Option.bind, Option.map]
    cases ks[off]? with
    | none => rfl
    | some k =>
      simp only [Ev.run_bind, a0d, Option.bind, ipK]
      generalize a0l k = b
      cases b <;> rfl
@[go_sem] theorem h1u {x : X} {g : Nat} : d3f G st d x (.lit (.pointer (some ⟨g, 0, none⟩))) = c3k st d ((G g).map .lit) := (rfl)
@[go_sem] theorem g7z {x : X} {ks : List AV} {off : Nat} : d3f G st d x (.ip ks off) = c3k st d (ipK ks[off]?) := (rfl)
@[go_sem] theorem g1k {x : X} {ks : List AV} : d3f G st d x (.var ks) = ldS st d (b1q st x (.var ks)) := (rfl)
@[go_sem] theorem f6z {x : X} {t : Nat} {q : List Nat} {o e : Nat} : d3f G st d x (.ref t q o e) = ldS st d (b1q st x (.ref t q o e)) := (rfl)
def lmS (st : St) (d s : Nat) (r : Option (Nat × List Nat × Nat × List AV)) : Option St := match r with
  | some (t, q, o, ks) => gO (o + s ≤ ks.length) (iO (a0j ((ks.drop o).take s)) (some (st.put d (.agg ((ks.drop o).take s)))) (some ((st.set t (setRow (st.s t) q (a0p ks o (a1n ((ks.drop o).take s))))).put d (.agg (a1n ((ks.drop o).take s))))))
  | none => none
@[congr] theorem g2y {s : Nat} {r r' : Option (Nat × List Nat × Nat × List AV)} (h : r = r') : lmS st d s r = lmS st d s r' := by rw [h]
@[go_sem] theorem g5o {s t : Nat} {q : List Nat} {o : Nat} {ks : List AV} : lmS st d s (some (t, q, o, ks)) = gO (o + s ≤ ks.length) (iO (a0j ((ks.drop o).take s)) (some (st.put d (.agg ((ks.drop o).take s)))) (some ((st.set t (setRow (st.s t) q (a0p ks o (a1n ((ks.drop o).take s))))).put d (.agg (a1n ((ks.drop o).take s)))))) := (rfl)
def lmX (st : St) (d s : Nat) (x : X) (v : AV) : Option St := match v with
  | .ip ks off => gO (off + s ≤ ks.length ∧ a0j ((ks.drop off).take s) = true) (some (st.put d (.agg ((ks.drop off).take s))))
  | v => lmS st d s (b1q st x v)
@[congr] theorem g0r {s : Nat} {x : X} {v v' : AV} (h : v = v') : lmX st d s x v = lmX st d s x v' := by rw [h]
@[go_sem] theorem h4y {s : Nat} {x : X} {ks : List AV} {off : Nat} : lmX st d s x (.ip ks off) = gO (off + s ≤ ks.length ∧ a0j ((ks.drop off).take s) = true) (some (st.put d (.agg ((ks.drop off).take s)))) := (rfl)
@[go_sem] theorem h39 {s : Nat} {x : X} {ks : List AV} : lmX st d s x (.var ks) = lmS st d s (b1q st x (.var ks)) := (rfl)
@[go_sem] theorem g8q {s : Nat} {x : X} {t : Nat} {q : List Nat} {o e : Nat} : lmX st d s x (.ref t q o e) = lmS st d s (b1q st x (.ref t q o e)) := (rfl)
theorem e2m (x : X) (s : Nat) : ((d6n (some d) (some s) x).run st).map (·.2) = lmS st d s (b1q st x (rdv st x)) := by
  simp only [d6n, Ev.run_bind, b9n, Option.bind, lmS]
  cases b1q st x (rdv st x) with
  | none => rfl
  | some r =>
    obtain ⟨t, q, o, ks⟩ := r
    simp only [Option.map, Ev.run_bind, a0d, Option.bind, gO]
    by_cases hl : o + s ≤ ks.length
    · simp only [hl, decide_true, if_true, iO]
      generalize a0j _ = b
      cases b <;> rfl
    · simp only [hl, decide_false, Bool.false_eq_true, if_false]
@[go_sem] theorem f9x {T : TypeId} {x : X} {s : Nat} : evS G N (some d) (.load T (some s) x) st = lmX st d s x (rdv st x) := by
  simp only [evS, a1c, Ev.run_bind, a0r, Option.bind]
  have h := e2m (d := d) (st := st) x s
  cases hv : rdv st x <;> rw [hv] at h <;> try exact h
  · split <;> simp_all <;> rfl
  rename_i ks off
  simp only [lmX, Ev.run_bind, a0d, Option.bind, Option.map, gO]
  by_cases hl : off + s ≤ ks.length
  · simp only [hl, decide_true, Bool.true_and, true_and]
    generalize a0j _ = b
    cases b <;> rfl
  · simp only [hl, decide_false, Bool.false_and, Bool.false_eq_true, if_false, false_and]
def e56 (st : St) (d : Nat) (x : X) (v : AV) : Option St := match v with
  | .ip ks o => some (st.put d (.ip ks o))
  | .fn f a b => some (st.put d (.fn f a b))
  | v => match b1q st x v with
    | some (t, q, o, ks) => some (st.put d (.ref t q o (st.ep t)))
    | none => none
def e4h (st : St) (d off : Nat) (r : Option (Nat × List Nat × Nat × List AV)) : Option St := match r with
  | some (t, q, o, ks) => some (st.put d (.ref t q (o + off) (st.ep t)))
  | none => none
@[congr] theorem f5k {off : Nat} {r r' : Option (Nat × List Nat × Nat × List AV)} (h : r = r') : e4h st d off r = e4h st d off r' := by rw [h]
@[go_sem] theorem f9l {off t : Nat} {q : List Nat} {o : Nat} {ks : List AV} : e4h st d off (some (t, q, o, ks)) = some (st.put d (.ref t q (o + off) (st.ep t))) := (rfl)
@[congr] theorem f6u {x : X} {v v' : AV} (h : v = v') : e56 st d x v = e56 st d x v' := by rw [h]
@[go_sem] theorem g0x {x : X} : evS G N (some d) (.nilck x) st = e56 st d x (rdv st x) := by
  simp only [evS, a1c, Ev.run_bind, a0r, Option.bind]
  cases hv : rdv st x <;> simp only [e56, Ev.run_bind, b9n, Option.bind, hv] <;> try rfl
  · generalize b1q st x _ = r; cases r <;> rfl
  · generalize b1q st x _ = r; cases r <;> rfl
@[go_sem] theorem h3k {x : X} {ks : List AV} {o : Nat} : e56 st d x (.ip ks o) = some (st.put d (.ip ks o)) := (rfl)
@[go_sem] theorem h3f {x : X} {f : FuncId} {a b : List AV} : e56 st d x (.fn f a b) = some (st.put d (.fn f a b)) := (rfl)
@[go_sem] theorem g53 {x : X} {ks : List AV} : e56 st d x (.var ks) = e4h st d 0 (b1q st x (.var ks)) := by
  simp only [e56, e4h]; cases b1q st x (.var ks) <;> rfl
@[go_sem] theorem g7m {x : X} {t : Nat} {q : List Nat} {o e : Nat} : e56 st d x (.ref t q o e) = e4h st d 0 (b1q st x (.ref t q o e)) := by
  simp only [e56, e4h]; cases b1q st x (.ref t q o e) <;> rfl
def f2a (st : St) (d off : Nat) (x : X) (v : AV) : Option St := match v with
  | .ip ks o => some (st.put d (.ip ks (o + off)))
  | v => e4h st d off (b1q st x v)
@[congr] theorem f6d {off : Nat} {x : X} {v v' : AV} (h : v = v') : f2a st d off x v = f2a st d off x v' := by rw [h]
@[go_sem] theorem g06 {T : TypeId} {off f : Nat} {x : X} : evS G N (some d) (.faddr T off x f) st = f2a st d off x (rdv st x) := by
  simp only [evS, a1c, Ev.run_bind, a0r, Option.bind]
  cases hv : rdv st x <;> simp only [f2a, Ev.run_bind, b9n, Option.bind, hv, e4h] <;> try rfl
  · generalize b1q st x _ = r; cases r <;> rfl
  · generalize b1q st x _ = r; cases r <;> rfl
@[go_sem] theorem h3o {off : Nat} {x : X} {ks : List AV} {o : Nat} : f2a st d off x (.ip ks o) = some (st.put d (.ip ks (o + off))) := (rfl)
@[go_sem] theorem g7h {off : Nat} {x : X} {ks : List AV} : f2a st d off x (.var ks) = e4h st d off (b1q st x (.var ks)) := (rfl)
@[go_sem] theorem g65 {off : Nat} {x : X} {t : Nat} {q : List Nat} {o e : Nat} : f2a st d off x (.ref t q o e) = e4h st d off (b1q st x (.ref t q o e)) := (rfl)
end
end Go.Ideal
end
section
set_option linter.unusedVariables false
set_option linter.unusedSimpArgs false
namespace Go.Ideal
section
variable {G : Nat → Option Value} {N d : Nat} {st : St}
def f04 (st : St) (N t : Nat) (q : List Nat) (lo n : Nat) (k : Option AV) : Option (St × List AV) := match k with
  | some (.own sz n0 ks) => gO (lo + n ≤ n0 ∧ t < N) (some (st.set t (a0s (st.s t) q (frz (.own sz n0 ks))), [.sl n (((a1n ks).drop (lo * sz)).take (n * sz))]))
  | _ => none
@[congr] theorem f5a {t : Nat} {q : List Nat} {lo n : Nat} {k k' : Option AV} (h : k = k') : f04 st N t q lo n k = f04 st N t q lo n k' := by rw [h]
@[go_sem] theorem g4v {t : Nat} {q : List Nat} {lo n sz n0 : Nat} {ks : List AV} : f04 st N t q lo n (some (.own sz n0 ks)) = gO (lo + n ≤ n0 ∧ t < N) (some (st.set t (a0s (st.s t) q (frz (.own sz n0 ks))), [.sl n (((a1n ks).drop (lo * sz)).take (n * sz))])) := (rfl)
def e9j (st : St) (x : X) (ks : List AV) : Option (St × List AV) := match x with
  | .t t => some (st.put t .dead, ks)
  | _ => none
@[go_sem] theorem h52 {t : Nat} {ks : List AV} : e9j st (.t t) ks = some (st.put t .dead, ks) := (rfl)
def g6e (st : St) (x : X) (ks : List AV) : Option (St × List AV) := match x with
  | .t t => some (st.put t .dead, ks)
  | _ => some (st, ks)
@[go_sem] theorem h5q {t : Nat} {ks : List AV} : g6e st (.t t) ks = some (st.put t .dead, ks) := (rfl)
@[go_sem] theorem h2i {t : Nat} {ks : List AV} : g6e st (.nl t) ks = some (st, ks) := (rfl)
def giv (st : St) (N : Nat) (x : X) (v : AV) : Option (St × List AV) := match v with
  | .dead => none
  | .tup _ => none
  | .ref _ _ _ _ => none
  | .bor t q lo n e => f04 st N t q lo n (a2r st t q e)
  | .agg ks => e9j st x ks
  | .own sz n ks => g6e st x [.own sz n ks]
  | .var ks => e9j st x [frz (.var ks)]
  | .ifc T k => e9j st x [frz (.ifc T k)]
  | .fn f a b => if a4n.noRefL a && a4n.noRefL b then some (st, [.fn f a b]) else none
  | v => if a4n.oneAV v then some (st, [v]) else none
@[congr] theorem f7g {x : X} {v v' : AV} (h : v = v') : giv st N x v = giv st N x v' := by rw [h]
theorem c0w (x : X) : (a4n x N).run st = (giv st N x (rdv st x)).map fun r => ((), r.1.put N (.agg r.2)) := by
  have hbor : ∀ (t : Nat) (q : List Nat) (lo n e : Nat), (do
        let r2 ← c24 t
        a0i (e == r2.2)
        let k ← a4o (a0c r2.1 q)
        match k with
        | .own sz n0 ks => do
          a0i (decide (lo + n ≤ n0) && decide (t < N))
          c5o t (a0s r2.1 q (frz k))
          a3h N (.agg [.sl n (((a1n ks).drop (lo * sz)).take (n * sz))])
        | _ => .fail : Ev Unit).run st = (f04 st N t q lo n (a2r st t q e)).map fun r => ((), r.1.put N (.agg r.2)) := by
    intro t q lo n e
    simp only [a2r, Ev.run_bind, a1i, Option.bind]
    by_cases he : e = st.ep t
    · subst he
      simp only [beq_self_eq_true, a0i, if_true, Ev.run, a00]
      cases hk : a0c (st.s t) q with
      | none => rfl
      | some k =>
        simp only [Option.map]
        cases k <;> try rfl
        rename_i sz n0 ks
        simp only [f04, gO, Ev.run_bind, Option.bind]
        by_cases h1 : lo + n ≤ n0
        · by_cases h2 : t < N
          · simp only [h1, h2, decide_true, Bool.and_self, if_true, and_self]; rfl
          · simp only [h1, h2, decide_true, decide_false, Bool.and_false, Bool.false_eq_true, if_false, and_false]; rfl
        · simp only [h1, decide_false, Bool.false_and, Bool.false_eq_true, if_false, false_and]; rfl
    · have : (e == st.ep t) = false := by simpa using he
      simp only [this, a0i, Bool.false_eq_true, if_false, Ev.run, he]
      rfl
  simp only [a4n, Ev.run_bind, a0r, Option.bind]
  cases x with
  | t n =>
    simp only [rdv]
    cases hv : st.s n <;> simp only [giv] <;> first | exact hbor _ _ _ _ _ | rfl | (simp only [Ev.run_bind, a0d, Option.bind, Option.map]; generalize (a4n.noRefL _ && a4n.noRefL _) = b; cases b <;> rfl) | (simp only [Ev.run_bind, a0d, Option.bind, Option.map]; generalize a4n.oneAV _ = b; cases b <;> rfl)
  | c v => simp only [rdv, giv, Ev.run_bind, a0d, Option.bind, Option.map]; generalize a4n.oneAV _ = b; cases b <;> rfl
  | nl n => rfl
  | g n => rfl
  | f n => rfl
def one (b : Bool) (r : Option (St × List AV)) : Option (St × List AV) := if b then r else none
@[congr] theorem f80 {b b' : Bool} {r : Option (St × List AV)} (h : b = b') : one b r = one b' r := by rw [h]
@[go_sem] theorem h84 {r : Option (St × List AV)} : one true r = r := (rfl)
@[go_sem] theorem g87 {x : X} {v : Value} : giv st N x (.lit v) = one v.oneCell' (some (st, [.lit v])) := (rfl)
@[go_sem] theorem h4w {x : X} {n : Nat} {ks : List AV} : giv st N x (.sl n ks) = some (st, [.sl n ks]) := (rfl)
@[go_sem] theorem h5v {x : X} {n : Nat} {ks : List AV} : giv st N x (.ip ks n) = some (st, [.ip ks n]) := (rfl)
@[go_sem] theorem h7q {x : X} {f : FuncId} {a b : List AV} : giv st N x (.fn f a b) = one (a4n.noRefL a && a4n.noRefL b) (some (st, [.fn f a b])) := (rfl)
@[go_sem] theorem h0d {x : X} {t : Nat} {q : List Nat} {lo n e : Nat} : giv st N x (.bor t q lo n e) = f04 st N t q lo n (a2r st t q e) := (rfl)
@[go_sem] theorem g9t {x : X} {ks : List AV} : giv st N x (.agg ks) = e9j st x ks := (rfl)
@[go_sem] theorem h2h {x : X} {sz n : Nat} {ks : List AV} : giv st N x (.own sz n ks) = g6e st x [.own sz n ks] := (rfl)
@[go_sem] theorem h0l {x : X} {ks : List AV} : giv st N x (.var ks) = e9j st x [.ip (a1n ks) 0] := (rfl)
@[go_sem] theorem g8e {x : X} {T : TypeId} {k : AV} : giv st N x (.ifc T k) = e9j st x [.ifc T (frz k)] := (rfl)
attribute [go_sem] Value.oneCell'
def g7u (G : Nat → Option Value) (st : St) (N d T s t : Nat) (v : AV) : Option St := match v with
  | .var ks => gO (t < N ∧ ks.length = s ∧ 0 < s) (some ((st.set t .dead).thru N d (.agg ks)))
  | _ => evS G N (some d) (.lmv T s (.t t)) st
@[congr] theorem f4s {T s t : Nat} {v v' : AV} (h : v = v') : g7u G st N d T s t v = g7u G st N d T s t v' := by rw [h]
theorem e92 {T s t : Nat} {ks : List AV} (h : st.s t = .var ks) : evS G N (some d) (.lmv T s (.t t)) st = gO (t < N ∧ ks.length = s ∧ 0 < s) (some ((st.set t .dead).thru N d (.agg ks))) := by
  simp only [evS, a1c, d8l, Ev.run_bind, a0r, rdv, h, Option.bind, c7z, Ev.run, Ev.run_pure, a1i, a0d, gO]
  by_cases h1 : t < N
  · by_cases h2 : ks.length = s
    · by_cases h3 : 0 < s
      · simp only [h1, h2, h3, List.isEmpty_nil, BEq.rfl, decide_true, Bool.and_self, if_true, and_self, d0l, a82, Option.map]
      · simp [h1, h2, h3]
    · simp [h1, h2]
  · simp [h1]
@[go_sem] theorem h2f {T s t : Nat} : evS G N (some d) (.lmv T s (.t t)) st = g7u G st N d T s t (st.s t) := by
  cases h : st.s t <;> first | rfl | exact e92 h
@[go_sem] theorem g5t {T s t : Nat} {ks : List AV} : g7u G st N d T s t (.var ks) = gO (t < N ∧ ks.length = s ∧ 0 < s) (some ((st.set t .dead).thru N d (.agg ks))) := (rfl)
theorem c2l {v : AV} (h : (a0e v).isSome = false) : (st.put N v).put N .dead = st.put N .dead := by
  refine St.ext' (fun u => ?_) (fun u => ?_)
  · simp only [St.put_s]; split <;> rfl
  · have hd : (a0e AV.dead).isSome = false := rfl
    simp only [St.put_ep, h, hd, Bool.false_eq_true, and_false, if_false]
def e3s (st : St) (N s : Nat) (cs : List AV) (r : Option (Nat × List Nat × Nat × List AV)) : Option St := match r with
  | some (t, q, o, ks) => gO (cs.length = s ∧ 0 < s ∧ t < N ∧ o + s ≤ ks.length) (iO (a0j cs) (some (st.set t (setRow (st.s t) q (a0p ks o cs)))) (some ((st.kill t q o s).set t (setRow (st.s t) q (a0p ks o cs)))))
  | none => none
@[congr] theorem f2s {s : Nat} {cs : List AV} {r r' : Option (Nat × List Nat × Nat × List AV)} (h : r = r') : e3s st N s cs r = e3s st N s cs r' := by rw [h]
@[go_sem] theorem g1o {s t : Nat} {q : List Nat} {o : Nat} {cs ks : List AV} : e3s st N s cs (some (t, q, o, ks)) = gO (cs.length = s ∧ 0 < s ∧ t < N ∧ o + s ≤ ks.length) (iO (a0j cs) (some (st.set t (setRow (st.s t) q (a0p ks o cs)))) (some ((st.kill t q o s).set t (setRow (st.s t) q (a0p ks o cs))))) := (rfl)
def f3k (st : St) (N s : Nat) (x : X) (cs : List AV) : Option St := e3s st N s cs (b1q st x (rdv st x))
@[congr] theorem f4y {s : Nat} {x : X} {cs : List AV} {st' : St} (h : st = st') : f3k st N s x cs = f3k st' N s x cs := by rw [h]
@[go_sem] theorem g93 {s : Nat} {x : X} {cs : List AV} : f3k st N s x cs = e3s st N s cs (b1q st x (rdv st x)) := (rfl)
def g29 (N s : Nat) (x : X) (r : Option (St × List AV)) : Option St := match r with
  | some (st1, cs) => f3k (st1.put N .dead) N s x cs
  | none => none
@[congr] theorem f3o {s : Nat} {x : X} {r r' : Option (St × List AV)} (h : r = r') : g29 N s x r = g29 N s x r' := by rw [h]
@[go_sem] theorem f7e {s : Nat} {x : X} {cs : List AV} : g29 N s x (some (st, cs)) = f3k (st.put N .dead) N s x cs := (rfl)
theorem e4s {s : Nat} {cs : List AV} {r : Option (Nat × List Nat × Nat × List AV)} (h : ∀ p, r = some p → ¬ p.1 < N) : e3s st N s cs r = none := by
  cases r with
  | none => rfl
  | some p =>
    obtain ⟨t, q, o, ks⟩ := p
    have := h _ rfl
    simp only [e3s, gO]
    rw [if_neg]
    rintro ⟨_, _, h1, _⟩
    exact this h1
def g8y (N s t : Nat) (q : List Nat) (o : Nat) (v : AV) (ks : List AV) : Ev Unit := do
    let cs ← d9p N
    a0i (decide (cs.length = s) && decide (0 < s) && decide (t < N) && decide (o + s ≤ ks.length))
    a3h N .dead
    if a0j cs then c5o t (setRow v q (a0p ks o cs)) else do
      e4j t q o s
      c5o t (setRow v q (a0p ks o cs))
theorem e70 {s t : Nat} {q : List Nat} {o : Nat} {cs ks : List AV} : ((g8y N s t q o ((st.put N (.agg cs)).s t) ks).run (st.put N (.agg cs))).map (·.2) = e3s (st.put N .dead) N s cs (some (t, q, o, ks)) := by
  have hN : (st.put N (.agg cs)).s N = .agg cs := by simp
  simp only [g8y, d9p, Ev.run_bind, a49, hN, Option.bind, Ev.run_pure, a0d, e3s, gO]
  by_cases h3 : cs.length = s ∧ 0 < s ∧ t < N ∧ o + s ≤ ks.length
  · obtain ⟨g1, g2, g3, g4⟩ := h3
    have htN : t ≠ N := Nat.ne_of_lt g3
    simp only [g1, g2, g3, g4, decide_true, Bool.and_self, if_true, and_self, a7p, c2l (show (a0e (AV.agg cs)).isSome = false from rfl), iO, htN, if_false, St.put_s]
    generalize a0j cs = b
    cases b <;> rfl
  · have : (decide (cs.length = s) && decide (0 < s) && decide (t < N) && decide (o + s ≤ ks.length)) = false := by
      simp only [Bool.and_eq_false_iff, decide_eq_false_iff_not]
      simp only [not_and] at h3
      by_cases g1 : cs.length = s
      · by_cases g2 : 0 < s
        · by_cases g3 : t < N
          · exact .inr (h3 g1 g2 g3)
          · exact .inl (.inr g3)
        · exact .inl (.inl (.inr g2))
      · exact .inl (.inl (.inl g1))
    simp only [this, Bool.false_eq_true, if_false, h3]
    rfl
@[go_sem] theorem g0c {T : TypeId} {s : Nat} {x y : X} : evS G N none (.store T s x y) st = g29 N s x (giv st N y (rdv st y)) := by
  have e : a1c G N none (.store T s x y) = (a4n y N >>= fun _ => e6a x >>= fun p => g8y N s p.1 p.2.1 p.2.2.1 p.2.2.2.1 p.2.2.2.2.2) := rfl
  simp only [evS, e, Ev.run_bind, c0w, Option.bind, Ev.run]
  cases giv st N y (rdv st y) with
  | none => rfl
  | some r =>
    obtain ⟨st1, cs⟩ := r
    simp only [Option.map, b9n, g29, f3k]
    have hd : (a0e AV.dead).isSome = false := rfl
    have ha : (a0e (AV.agg cs)).isSome = false := rfl
    have hep : ∀ t, (st1.put N (.agg cs)).ep t = (st1.put N .dead).ep t := fun t => by simp only [St.put_ep, hd, ha, Bool.false_eq_true, and_false, if_false]
    have hpt : ∀ (z : AV) t q o e p, b1q (st1.put N z) x (.ref t q o e) = some p → p.1 = t := by
      intro z t q o e p hp
      simp only [b1q] at hp
      cases hr : eR (e == (st1.put N z).ep t) (a32 ((st1.put N z).s t) q) with
      | none => rw [hr] at hp; cases hp
      | some ks =>
        rw [hr] at hp
        simp only [ptO, gO] at hp
        split at hp
        · injection hp with hp; rw [← hp]
        · cases hp
    suffices hq : e3s (st1.put N .dead) N s cs (b1q (st1.put N (.agg cs)) x (rdv (st1.put N (.agg cs)) x)) = e3s (st1.put N .dead) N s cs (b1q (st1.put N .dead) x (rdv (st1.put N .dead) x)) by
      rw [← hq]
      cases b1q (st1.put N (.agg cs)) x (rdv (st1.put N (.agg cs)) x) with
      | none => rfl
      | some p => obtain ⟨t, q, o, ks⟩ := p; exact e70
    have hrd : rdv (st1.put N (.agg cs)) x = rdv (st1.put N .dead) x ∨ (rdv (st1.put N (.agg cs)) x = .agg cs ∧ rdv (st1.put N .dead) x = .dead) := by
      cases x with
      | t t =>
        by_cases ht : t = N
        · exact .inr (by simp [rdv, ht])
        · exact .inl (by simp [rdv, ht])
      | _ => exact .inl rfl
    rcases hrd with h | ⟨h1, h2⟩
    · rw [h]
      cases hv : rdv (st1.put N .dead) x with
      | ref t q o e =>
        by_cases ht : t < N
        · have htN : t ≠ N := Nat.ne_of_lt ht
          have : b1q (st1.put N (.agg cs)) x (.ref t q o e) = b1q (st1.put N .dead) x (.ref t q o e) := by
            simp only [b1q, hep, St.put_s, htN, if_false]
          rw [this]
        · rw [e4s (fun p hp => by rw [hpt _ _ _ _ _ _ hp]; exact ht), e4s (fun p hp => by rw [hpt _ _ _ _ _ _ hp]; exact ht)]
      | _ => rfl
    · rw [h1, h2]; rfl
end
end Go.Ideal
end
section
set_option linter.unusedVariables false
set_option linter.unusedSimpArgs false
namespace Go.Ideal
section
variable {G : Nat → Option Value} {N d : Nat} {st : St}
def e55 (v : AV) : Option Int := match v with
  | .lit (.int _ n) => some n
  | _ => none
@[go_sem] theorem g4d {k : IntKind} {n : Int} : e55 (.lit (.int k n)) = some n := (rfl)
theorem c3v (x : X) : (e14 x).run st = (e55 (rdv st x)).map fun n => (n, st) := by
  simp only [e14, Ev.run_bind, a7l, Option.bind]
  cases rdv st x <;> try rfl
  rename_i v; cases v <;> rfl
def iaB (st : St) (sz : Nat) (n : Int) (t : Nat) (q : List Nat) (lo m : Nat) (k : Option AV) : Option AV := match k with
  | some (.own sz' n0 _) => gO (n < (m : Int) ∧ sz' = sz ∧ lo + m ≤ n0) (some (.ref t q ((lo + n.toNat) * sz) (st.ep t)))
  | _ => none
@[congr] theorem f92 {sz : Nat} {n : Int} {t : Nat} {q : List Nat} {lo m : Nat} {k k' : Option AV} (h : k = k') : iaB st sz n t q lo m k = iaB st sz n t q lo m k' := by rw [h]
@[go_sem] theorem h1r {sz : Nat} {n : Int} {t : Nat} {q : List Nat} {lo m sz' n0 : Nat} {ks : List AV} : iaB st sz n t q lo m (some (.own sz' n0 ks)) = gO (n < (m : Int) ∧ sz' = sz ∧ lo + m ≤ n0) (some (.ref t q ((lo + n.toNat) * sz) (st.ep t))) := (rfl)
def iaV (st : St) (sz : Nat) (n : Int) (x : X) (v : AV) : Option AV := match v with
  | .sl m ks => gO (n < (m : Int) ∧ n.toNat * sz < ks.length) (some (.ip ks (n.toNat * sz)))
  | .own sz' m ks => match x with
    | .t t => iaB st sz n t [] 0 m (some (.own sz' m ks))
    | _ => none
  | .bor t q lo m e => iaB st sz n t q lo m (a2r st t q e)
  | _ => none
@[congr] theorem g3w {sz : Nat} {n : Int} {x : X} {v v' : AV} (h : v = v') : iaV st sz n x v = iaV st sz n x v' := by rw [h]
@[go_sem] theorem h6k {sz : Nat} {n : Int} {x : X} {m : Nat} {ks : List AV} : iaV st sz n x (.sl m ks) = gO (n < (m : Int) ∧ n.toNat * sz < ks.length) (some (.ip ks (n.toNat * sz))) := (rfl)
@[go_sem] theorem h2p {sz : Nat} {n : Int} {t sz' m : Nat} {ks : List AV} : iaV st sz n (.t t) (.own sz' m ks) = iaB st sz n t [] 0 m (some (.own sz' m ks)) := (rfl)
@[go_sem] theorem g8d {sz : Nat} {n : Int} {x : X} {t : Nat} {q : List Nat} {lo m e : Nat} : iaV st sz n x (.bor t q lo m e) = iaB st sz n t q lo m (a2r st t q e) := (rfl)
def iaO (st : St) (sz : Nat) (x : X) (v : AV) (i : Option Int) : Option AV := match i with
  | some n => gO (0 ≤ n) (iaV st sz n x v)
  | none => none
@[congr] theorem g04 {sz : Nat} {x : X} {v v' : AV} {i i' : Option Int} (h : i = i') (h2 : v = v') : iaO st sz x v i = iaO st sz x v' i' := by rw [h, h2]
@[go_sem] theorem g5v {sz : Nat} {x : X} {v : AV} {n : Int} : iaO st sz x v (some n) = gO (0 ≤ n) (iaV st sz n x v) := (rfl)
theorem b97 {x : X} {t : Nat} {q : List Nat} {lo n e : Nat} (h : rdv st x = .bor t q lo n e) : (a9c x).run st = if e = st.ep t then some ((t, q, lo, n), st) else none := by
  simp only [a9c, Ev.run_bind, a0r, h, Option.bind, a1i]
  by_cases he : e = st.ep t
  · simp only [he, beq_self_eq_true, a0i, if_true]; rfl
  · have : (e == st.ep t) = false := by simpa using he
    simp only [this, a0i, Bool.false_eq_true, if_false, he]; rfl
theorem b9p {t sz n : Nat} {ks : List AV} (h : st.s t = .own sz n ks) : (a9c (.t t)).run st = some ((t, [], 0, n), st) := by
  simp only [a9c, Ev.run_bind, a0r, rdv, h, Option.bind, c7z, Ev.run]; rfl
theorem c20 {x : X} (h1 : ∀ t q lo n e, rdv st x ≠ .bor t q lo n e) (h2 : ∀ sz n ks t, x = .t t → rdv st x ≠ .own sz n ks) : (a9c x).run st = none := by
  simp only [a9c, Ev.run_bind, a0r, Option.bind]
  cases hv : rdv st x <;> try rfl
  · cases x <;> try rfl
    exact (h2 _ _ _ _ rfl hv).elim
  · exact (h1 _ _ _ _ _ hv).elim
@[go_sem] theorem g18 {T : TypeId} {sz : Nat} {x i : X} : evS G N (some d) (.iaddr T sz x i) st = c3k st d (iaO st sz x (rdv st x) (e55 (rdv st i))) := by
  simp only [evS, a1c, Ev.run_bind, c3v, Option.bind]
  cases e55 (rdv st i) with
  | none => rfl
  | some n =>
    simp only [Option.map, Ev.run_bind, a0d, Option.bind, iaO, gO]
    by_cases h0 : 0 ≤ n
    · simp only [h0, decide_true, if_true, Ev.run_bind, a0r, Option.bind]
      cases hv : rdv st x with
      | sl m ks =>
        simp only [iaV, gO, Ev.run_bind, a0d, Option.bind]
        by_cases h1 : n < (m : Int)
        · by_cases h2 : n.toNat * sz < ks.length
          · simp only [h1, h2, decide_true, Bool.and_self, and_self, if_true]; rfl
          · simp only [h2, decide_false, Bool.and_false, and_false, Bool.false_eq_true, if_false]; rfl
        · simp only [h1, decide_false, Bool.false_and, false_and, Bool.false_eq_true, if_false]; rfl
      | bor t q lo m e =>
        simp only [Ev.run_bind, b97 hv, Option.bind, iaV]
        by_cases he : e = st.ep t
        · simp only [he, if_true, Ev.run_bind, a0d, Option.bind, a1i, a2r]
          by_cases h1 : n < (m : Int)
          · simp only [h1, decide_true, if_true, Ev.run_bind, a1i, Option.bind, a00]
            cases a0c (st.s t) q with
            | none => rfl
            | some k =>
              cases k <;> try rfl
              rename_i sz' n0 ks
              simp only [Option.map, iaB, gO, Ev.run_bind, a0d, Option.bind, h1, true_and]
              by_cases h2 : sz' = sz
              · by_cases h3 : lo + m ≤ n0
                · simp only [h2, h3, beq_self_eq_true, decide_true, Bool.and_self, if_true, and_self]; rfl
                · simp only [h3, decide_false, Bool.and_false, and_false, Bool.false_eq_true, if_false]; rfl
              · have : (sz' == sz) = false := by simpa using h2
                simp only [this, h2, Bool.false_and, false_and, Bool.false_eq_true, if_false]; rfl
          · simp only [h1, decide_false, Bool.false_eq_true, if_false]
            cases a0c (st.s t) q with
            | none => rfl
            | some k => cases k <;> try rfl
                        simp only [iaB, gO, h1, false_and, if_false]; rfl
        · simp only [he, if_false, a2r]; rfl
      | own sz' m ks =>
        cases x with
        | t t =>
          simp only [rdv] at hv
          simp only [Ev.run_bind, b9p hv, Option.bind, iaV, iaB, gO, a0d]
          by_cases h1 : n < (m : Int)
          · simp only [h1, decide_true, if_true, Ev.run_bind, a1i, Option.bind, a00, hv, a0c, Option.map, a0d, true_and]
            by_cases h2 : sz' = sz
            · simp only [h2, beq_self_eq_true, Nat.zero_add, Nat.le_refl, decide_true, Bool.and_self, if_true, and_self]; rfl
            · have : (sz' == sz) = false := by simpa using h2
              simp only [this, h2, Bool.false_and, false_and, Bool.false_eq_true, if_false]; rfl
          · simp only [h1, decide_false, Bool.false_eq_true, if_false, false_and]; rfl
        | _ => rfl
      | _ => simp only [Ev.run_bind, c20 (st := st) (x := x) (by simp [hv]) (by simp [hv]), Option.bind]; rfl
    · simp only [h0, decide_false, Bool.false_eq_true, if_false]; rfl
def oiK (st : St) (x : Option X) (dflt : Int) : Option Int := match x with
  | some x => e55 (rdv st x)
  | none => some dflt
@[go_sem] theorem g5e {z : Int} : oiK st none z = some z := (rfl)
@[go_sem] theorem g7j {x : X} {z : Int} : oiK st (some x) z = e55 (rdv st x) := (rfl)
theorem a42 {x : Option X} {z : Int} : (a3i x z).run st = (oiK st x z).map fun n => (n, st) := by
  cases x with
  | none => rfl
  | some x => exact c3v x
def slR (lo hi : Option Int) (f : Int → Int → Option AV) : Option AV := match lo, hi with
  | some l, some h => f l h
  | _, _ => none
def slA (sz n : Nat) (ks : List AV) (lo hi : Option Int) : Option AV := match lo, hi with
  | some l, some h => gO (0 ≤ l ∧ l ≤ h ∧ h ≤ (n : Int) ∧ ks.length = n * sz) (some (.sl (h - l).toNat ((ks.drop (l.toNat * sz)).take ((h - l).toNat * sz))))
  | _, _ => none
@[congr] theorem f7b {sz n : Nat} {ks : List AV} {lo hi lo' hi' : Option Int} (h : lo = lo') (h2 : hi = hi') : slA sz n ks lo hi = slA sz n ks lo' hi' := by rw [h, h2]
@[go_sem] theorem g4n {sz n : Nat} {ks : List AV} {l h : Int} : slA sz n ks (some l) (some h) = gO (0 ≤ l ∧ l ≤ h ∧ h ≤ (n : Int) ∧ ks.length = n * sz) (some (.sl (h - l).toNat ((ks.drop (l.toNat * sz)).take ((h - l).toNat * sz)))) := (rfl)
def slC (st : St) (sz t : Nat) (q : List Nat) (lo0 n sz' n0 : Nat) (lo hi : Option Int) : Option AV := match lo, hi with
  | some l, some h => gO (0 ≤ l ∧ l ≤ h ∧ h ≤ (n : Int) ∧ lo0 + n ≤ n0 ∧ sz' = sz ∧ (lo0 = 0 ∨ l = 0 ∨ l < h)) (some (.bor t q (lo0 + l.toNat) (h - l).toNat (st.ep t)))
  | _, _ => none
@[congr] theorem g2g {sz t : Nat} {q : List Nat} {lo0 n sz' n0 : Nat} {lo hi lo' hi' : Option Int} (h : lo = lo') (h2 : hi = hi') : slC st sz t q lo0 n sz' n0 lo hi = slC st sz t q lo0 n sz' n0 lo' hi' := by rw [h, h2]
@[go_sem] theorem g6h {sz t : Nat} {q : List Nat} {lo0 n sz' n0 : Nat} {l h : Int} : slC st sz t q lo0 n sz' n0 (some l) (some h) = gO (0 ≤ l ∧ l ≤ h ∧ h ≤ (n : Int) ∧ lo0 + n ≤ n0 ∧ sz' = sz ∧ (lo0 = 0 ∨ l = 0 ∨ l < h)) (some (.bor t q (lo0 + l.toNat) (h - l).toNat (st.ep t))) := (rfl)
def slB (st : St) (sz t : Nat) (q : List Nat) (lo0 n : Nat) (lo hi : Option X) (k : Option AV) : Option AV := match k with
  | some (.own sz' n0 _) => slC st sz t q lo0 n sz' n0 (oiK st lo 0) (oiK st hi n)
  | _ => none
@[congr] theorem f8e {sz t : Nat} {q : List Nat} {lo0 n : Nat} {lo hi : Option X} {k k' : Option AV} (h : k = k') : slB st sz t q lo0 n lo hi k = slB st sz t q lo0 n lo hi k' := by rw [h]
@[go_sem] theorem h3u {sz t : Nat} {q : List Nat} {lo0 n : Nat} {lo hi : Option X} {sz' n0 : Nat} {ks : List AV} : slB st sz t q lo0 n lo hi (some (.own sz' n0 ks)) = slC st sz t q lo0 n sz' n0 (oiK st lo 0) (oiK st hi n) := (rfl)
def slS (s : ByteArray) (lo hi : Option Int) : Option AV := match lo, hi with
  | some l, some h => gO (0 ≤ l ∧ l ≤ h ∧ h ≤ (s.size : Int)) (some (.lit (.string (s.extract l.toNat h.toNat))))
  | _, _ => none
@[go_sem] theorem g6m {s : ByteArray} {l h : Int} : slS s (some l) (some h) = gO (0 ≤ l ∧ l ≤ h ∧ h ≤ (s.size : Int)) (some (.lit (.string (s.extract l.toNat h.toNat)))) := (rfl)
def slV (st : St) (sz : Nat) (x : X) (lo hi : Option X) (v : AV) : Option AV := match v with
  | .lit (.string s) => gO (sz = 0) (slS s (oiK st lo 0) (oiK st hi s.size))
  | .sl n ks => gO (0 < sz) (slA sz n ks (oiK st lo 0) (oiK st hi n))
  | .own sz' n ks => match x with
    | .t t => gO (0 < sz) (slB st sz t [] 0 n lo hi (some (.own sz' n ks)))
    | _ => none
  | .bor t q lo0 n e => gO (0 < sz) (slB st sz t q lo0 n lo hi (a2r st t q e))
  | _ => none
@[congr] theorem g3q {sz : Nat} {x : X} {lo hi : Option X} {v v' : AV} (h : v = v') : slV st sz x lo hi v = slV st sz x lo hi v' := by rw [h]
section
variable {sz : Nat} {x : X} {lo hi : Option X}
@[go_sem] theorem h1z {s : ByteArray} : slV st sz x lo hi (.lit (.string s)) = gO (sz = 0) (slS s (oiK st lo 0) (oiK st hi s.size)) := (rfl)
@[go_sem] theorem h44 {n : Nat} {ks : List AV} : slV st sz x lo hi (.sl n ks) = gO (0 < sz) (slA sz n ks (oiK st lo 0) (oiK st hi n)) := (rfl)
@[go_sem] theorem h3a {t sz' n : Nat} {ks : List AV} : slV st sz (.t t) lo hi (.own sz' n ks) = gO (0 < sz) (slB st sz t [] 0 n lo hi (some (.own sz' n ks))) := (rfl)
@[go_sem] theorem h0f {t : Nat} {q : List Nat} {lo0 n e : Nat} : slV st sz x lo hi (.bor t q lo0 n e) = gO (0 < sz) (slB st sz t q lo0 n lo hi (a2r st t q e)) := (rfl)
end
theorem g0h {sz t : Nat} {q : List Nat} {lo0 n sz' n0 e : Nat} {lo hi : Option X} (he : e = st.ep t) :
    ((do
        let l ← a3i lo 0
        let h ← a3i hi n
        a0i (decide (0 ≤ l) && decide (l ≤ h) && decide (h ≤ (n : Int)) && decide (lo0 + n ≤ n0) && sz' == sz && (lo0 == 0 || l == 0 || decide (l < h)))
        setD (some d) (.bor t q (lo0 + l.toNat) (h - l).toNat e) : Ev Unit).run st).map (·.2) = c3k st d (slC st sz t q lo0 n sz' n0 (oiK st lo 0) (oiK st hi n)) := by
  subst he
  simp only [Ev.run_bind, a42, Option.bind, slC]
  cases oiK st lo 0 with
  | none => rfl
  | some l =>
    simp only [Option.map, a42]
    cases oiK st hi n with
    | none => rfl
    | some h =>
      simp only [Option.map, Ev.run_bind, a0d, Option.bind, gO]
      by_cases hc : 0 ≤ l ∧ l ≤ h ∧ h ≤ (n : Int) ∧ lo0 + n ≤ n0 ∧ sz' = sz ∧ (lo0 = 0 ∨ l = 0 ∨ l < h)
      · have : (decide (0 ≤ l) && decide (l ≤ h) && decide (h ≤ (n : Int)) && decide (lo0 + n ≤ n0) && sz' == sz && (lo0 == 0 || l == 0 || decide (l < h))) = true := by
          simp only [Bool.and_eq_true, Bool.or_eq_true, decide_eq_true_eq, beq_iff_eq]
          omega
        rw [if_pos hc]
        simp only [this, if_true]; rfl
      · have : (decide (0 ≤ l) && decide (l ≤ h) && decide (h ≤ (n : Int)) && decide (lo0 + n ≤ n0) && sz' == sz && (lo0 == 0 || l == 0 || decide (l < h))) = false := by
          rw [Bool.eq_false_iff]
          intro hh
          simp only [Bool.and_eq_true, Bool.or_eq_true, decide_eq_true_eq, beq_iff_eq] at hh
          exact hc (by omega)
        rw [if_neg hc]
        simp only [this, Bool.false_eq_true, if_false]; rfl
@[go_sem] theorem g01 {T : TypeId} {sz : Nat} {x : X} {lo hi : Option X} : evS G N (some d) (.slice T sz x lo hi none) st = c3k st d (slV st sz x lo hi (rdv st x)) := by
  simp only [evS, a1c, Ev.run_bind, a0r, Option.bind]
  have hno : ∀ v : AV, rdv st x = v → (∀ t q lo n e, v ≠ .bor t q lo n e) → (∀ sz n ks t, x = .t t → v ≠ .own sz n ks) → ((a0i (decide (0 < sz)) >>= fun _ => (a9c x >>= fun r => (do
      let v ← c24 r.1
      let k ← a4o (a0c v.1 r.2.1)
      match k with
      | .own sz' n0 _ => do
        let l ← a3i lo 0
        let h ← a3i hi r.2.2.2
        a0i (decide (0 ≤ l) && decide (l ≤ h) && decide (h ≤ (r.2.2.2 : Int)) && decide (r.2.2.1 + r.2.2.2 ≤ n0) && sz' == sz && (r.2.2.1 == 0 || l == 0 || decide (l < h)))
        match (none : Option X) with
        | none => setD (some d) (.bor r.1 r.2.1 (r.2.2.1 + l.toNat) (h - l).toNat v.2)
        | some m => do
          let m ← e14 m
          a0i (l == 0 && h == 0 && m == 0 && hi.isSome)
          a4e N (some d) (.own sz 0 [])
      | _ => .fail : Ev Unit)) : Ev Unit).run st).map (·.2) = none := by
    intro v hv h1 h2
    have hb := c20 (st := st) (x := x) (by rw [hv]; exact h1) (by rw [hv]; exact h2)
    by_cases h0 : 0 < sz
    · simp only [Ev.run_bind, a0d, Option.bind, h0, decide_true, if_true, hb]; rfl
    · simp only [Ev.run_bind, a0d, Option.bind, h0, decide_false, Bool.false_eq_true, if_false]; rfl
  cases hv : rdv st x with
  | lit v =>
    cases v <;> try exact hno _ hv (by simp) (by simp)
    rename_i s
    simp only [slV, Ev.run_bind, a42, Option.bind, slS, gO]
    cases oiK st lo 0 with
    | none => simp only [Option.map, ite_self]; rfl
    | some l =>
      simp only [Option.map, a42]
      cases oiK st hi s.size with
      | none => simp only [Option.map, ite_self]; rfl
      | some h =>
        simp only [Option.map, Ev.run_bind, a0d, Option.bind, Option.isNone, Bool.and_true]
        by_cases hz : sz = 0
        · by_cases hc : 0 ≤ l ∧ l ≤ h ∧ h ≤ (s.size : Int)
          · obtain ⟨h1, h2, h3⟩ := hc
            simp only [h1, h2, h3, hz, decide_true, Bool.and_self, beq_self_eq_true, if_true, and_self]; rfl
          · have : (decide (0 ≤ l) && decide (l ≤ h) && decide (h ≤ (s.size : Int))) = false := by
              rw [Bool.eq_false_iff]; intro hh
              simp only [Bool.and_eq_true, decide_eq_true_eq] at hh
              exact hc (by omega)
            simp only [this, hz, Bool.false_and, Bool.false_eq_true, if_false, hc, if_true]; rfl
        · have : (sz == 0) = false := by simpa using hz
          simp only [this, hz, Bool.and_false, Bool.false_eq_true, if_false]; rfl
  | sl n ks =>
    simp only [slV, gO, Ev.run_bind, a0d, Option.bind, slA]
    by_cases h0 : 0 < sz
    · simp only [h0, decide_true, if_true, Ev.run_bind, a42, Option.bind]
      cases oiK st lo 0 with
      | none => rfl
      | some l =>
        simp only [Option.map, a42]
        cases oiK st hi n with
        | none => rfl
        | some h =>
          simp only [Option.map, Ev.run_bind, a0d, Option.bind, gO]
          by_cases hc : 0 ≤ l ∧ l ≤ h ∧ h ≤ (n : Int) ∧ ks.length = n * sz
          · obtain ⟨h1, h2, h3, h4⟩ := hc
            simp only [h1, h2, h3, h4, decide_true, Bool.and_self, if_true, and_self]; rfl
          · have : (decide (0 ≤ l) && decide (l ≤ h) && decide (h ≤ (n : Int)) && decide (ks.length = n * sz)) = false := by
              rw [Bool.eq_false_iff]; intro hh
              simp only [Bool.and_eq_true, decide_eq_true_eq] at hh
              exact hc ⟨hh.1.1.1, hh.1.1.2, hh.1.2, hh.2⟩
            simp only [this, Bool.false_eq_true, if_false, hc]; rfl
    · simp only [h0, decide_false, Bool.false_eq_true, if_false]; rfl
  | bor t q lo0 n e =>
    simp only [slV, gO, Ev.run_bind, a0d, Option.bind]
    by_cases h0 : 0 < sz
    · simp only [h0, decide_true, if_true, Ev.run_bind, b97 hv, Option.bind]
      by_cases he : e = st.ep t
      · simp only [he, if_true, a2r]
        simp only [a1i, a00]
        cases a0c (st.s t) q with
        | none => rfl
        | some k => cases k <;> first | rfl | exact g0h rfl
      · simp only [he, if_false, a2r]; rfl
    · simp only [h0, decide_false, Bool.false_eq_true, if_false]; rfl
  | own sz' m ks =>
    cases x with
    | t t =>
      simp only [rdv] at hv
      simp only [slV, gO, Ev.run_bind, a0d, Option.bind]
      by_cases h0 : 0 < sz
      · simp only [h0, decide_true, if_true, Ev.run_bind, b9p hv, Option.bind]
        simp only [a1i, a00, hv, a0c, Option.map]
        exact g0h rfl
      · simp only [h0, decide_false, Bool.false_eq_true, if_false]; rfl
    | _ => exact hno _ hv (by simp) (by simp)
  | _ => exact hno _ hv (by simp) (by simp)
end
end Go.Ideal
end
section
set_option linter.unusedVariables false
set_option linter.unusedSimpArgs false
namespace Go.Ideal
section
variable {G : Nat → Option Value} {N d : Nat} {st : St}
def tkB (st : St) (N t : Nat) (q : List Nat) (lo n : Nat) (k : Option AV) : Option (St × Nat × Nat × List AV) := match k with
  | some (.own sz n0 ks) => gO (lo = 0 ∧ t < N ∧ n ≤ n0) (some (st.set t (a0s (st.s t) q .dead), sz, n, ks.take (n * sz)))
  | _ => none
@[congr] theorem g21 {t : Nat} {q : List Nat} {lo n : Nat} {k k' : Option AV} (h : k = k') : tkB st N t q lo n k = tkB st N t q lo n k' := by rw [h]
@[go_sem] theorem h1j {t : Nat} {q : List Nat} {lo n sz n0 : Nat} {ks : List AV} : tkB st N t q lo n (some (.own sz n0 ks)) = gO (lo = 0 ∧ t < N ∧ n ≤ n0) (some (st.set t (a0s (st.s t) q .dead), sz, n, ks.take (n * sz))) := (rfl)
def tkS (st : St) (N : Nat) (x : X) (v : AV) : Option (St × Nat × Nat × List AV) := match v with
  | .own sz n ks => match x with
    | .t t => some (st.put t .dead, sz, n, ks)
    | _ => some (st, sz, n, ks)
  | .bor t q lo n e => tkB st N t q lo n (a2r st t q e)
  | _ => none
@[congr] theorem f94 {x : X} {v v' : AV} (h : v = v') : tkS st N x v = tkS st N x v' := by rw [h]
@[go_sem] theorem g9h {t sz n : Nat} {ks : List AV} : tkS st N (.t t) (.own sz n ks) = some (st.put t .dead, sz, n, ks) := (rfl)
@[go_sem] theorem h4o {t sz n : Nat} {ks : List AV} : tkS st N (.nl t) (.own sz n ks) = some (st, sz, n, ks) := (rfl)
@[go_sem] theorem h3z {x : X} {t : Nat} {q : List Nat} {lo n e : Nat} : tkS st N x (.bor t q lo n e) = tkB st N t q lo n (a2r st t q e) := (rfl)
theorem d4o (x : X) : (e0s x N).run st = (tkS st N x (rdv st x)).map fun r => ((), r.1.put N (.own r.2.1 r.2.2.1 r.2.2.2)) := by
  simp only [e0s, Ev.run_bind, a0r, Option.bind]
  cases hv : rdv st x <;> try rfl
  · cases x <;> rfl
  · rename_i t q lo n e
    simp only [tkS, Ev.run_bind, a1i, Option.bind, a0d]
    by_cases he : e = st.ep t
    · subst he
      simp only [a2r, if_true, beq_self_eq_true, Bool.true_and]
      cases hk : a0c (st.s t) q with
      | none =>
        simp only [tkB, Option.map]
        generalize (lo == 0 && decide (t < N)) = b
        cases b
        · rfl
        · simp only [if_true, a00, hk]; rfl
      | some k =>
        by_cases h1 : lo = 0
        · by_cases h2 : t < N
          · simp only [h1, h2, beq_self_eq_true, decide_true, Bool.and_self, if_true, a00, hk, Option.map]
            cases k <;> try rfl
            rename_i sz n0 ks
            simp only [tkB, gO, Ev.run_bind, a0d, Option.bind, h2, true_and]
            by_cases h3 : n ≤ n0
            · simp only [h3, decide_true, if_true]; rfl
            · simp only [h3, decide_false, Bool.false_eq_true, if_false]
          · simp only [h2, decide_false, Bool.and_false, Bool.false_eq_true, if_false]
            cases k <;> try rfl
            simp only [tkB, gO, h2, false_and, and_false, if_false]; rfl
        · have : (lo == 0) = false := by simpa using h1
          simp only [this, Bool.false_and, Bool.false_eq_true, if_false]
          cases k <;> try rfl
          simp only [tkB, gO, h1, false_and, if_false]; rfl
    · have : (e == st.ep t) = false := by simpa using he
      simp only [this, Bool.false_and, Bool.false_eq_true, if_false, a2r, he]; rfl
def srB (st : St) (N t : Nat) (q : List Nat) (lo n : Nat) (k : Option AV) : Option (St × AV) := match k with
  | some (.own sz n0 ks) => gO (t < N ∧ lo + n ≤ n0) (some (st.set t (a0s (st.s t) q (frz (.own sz n0 ks))), .sl n (((a1n ks).drop (lo * sz)).take (n * sz))))
  | _ => none
@[congr] theorem f9b {t : Nat} {q : List Nat} {lo n : Nat} {k k' : Option AV} (h : k = k') : srB st N t q lo n k = srB st N t q lo n k' := by rw [h]
@[go_sem] theorem g9m {t : Nat} {q : List Nat} {lo n sz n0 : Nat} {ks : List AV} : srB st N t q lo n (some (.own sz n0 ks)) = gO (t < N ∧ lo + n ≤ n0) (some (st.set t (a0s (st.s t) q (frz (.own sz n0 ks))), .sl n (((a1n ks).drop (lo * sz)).take (n * sz)))) := (rfl)
def srS (st : St) (N : Nat) (x : X) (v : AV) : Option (St × AV) := match v with
  | .own sz n ks => match x with
    | .t t => some (st.put t .dead, .own sz n ks)
    | _ => some (st, .own sz n ks)
  | .sl n ks => some (st, .sl n ks)
  | .bor t q lo n e => srB st N t q lo n (a2r st t q e)
  | _ => none
@[congr] theorem g33 {x : X} {v v' : AV} (h : v = v') : srS st N x v = srS st N x v' := by rw [h]
@[go_sem] theorem g97 {t sz n : Nat} {ks : List AV} : srS st N (.t t) (.own sz n ks) = some (st.put t .dead, .own sz n ks) := (rfl)
@[go_sem] theorem h64 {t sz n : Nat} {ks : List AV} : srS st N (.nl t) (.own sz n ks) = some (st, .own sz n ks) := (rfl)
@[go_sem] theorem h4h {x : X} {n : Nat} {ks : List AV} : srS st N x (.sl n ks) = some (st, .sl n ks) := (rfl)
@[go_sem] theorem h3s {x : X} {t : Nat} {q : List Nat} {lo n e : Nat} : srS st N x (.bor t q lo n e) = srB st N t q lo n (a2r st t q e) := (rfl)
theorem e7s (x : X) : (f5p x N).run st = (srS st N x (rdv st x)).map fun r => ((), r.1.put (N + 1) r.2) := by
  simp only [f5p, Ev.run_bind, a0r, Option.bind]
  cases hv : rdv st x <;> try rfl
  · cases x <;> rfl
  · rename_i t q lo n e
    simp only [srS, Ev.run_bind, a1i, Option.bind, a0d]
    by_cases he : e = st.ep t
    · subst he
      simp only [a2r, if_true, beq_self_eq_true, Bool.true_and]
      cases hk : a0c (st.s t) q with
      | none =>
        simp only [srB, Option.map]
        generalize (decide (t < N)) = b
        cases b
        · rfl
        · simp only [if_true, a00, hk]; rfl
      | some k =>
        by_cases h2 : t < N
        · simp only [h2, decide_true, Bool.and_self, if_true, a00, hk, Option.map]
          cases k <;> try rfl
          rename_i sz n0 ks
          simp only [srB, gO, Ev.run_bind, a0d, Option.bind, h2, true_and]
          by_cases h3 : lo + n ≤ n0
          · simp only [h3, decide_true, if_true]; rfl
          · simp only [h3, decide_false, Bool.false_eq_true, if_false]
        · simp only [h2, decide_false, Bool.and_false, Bool.false_eq_true, if_false]
          cases k <;> try rfl
          simp only [srB, gO, h2, false_and, and_false, if_false]; rfl
    · have : (e == st.ep t) = false := by simpa using he
      simp only [this, Bool.false_and, Bool.false_eq_true, if_false, a2r, he]; rfl
def apV (sz by_ : Nat) (s y : AV) : Option (AV) := match s, y with
  | .own sz1 n xs, .own sz2 m ys => gO (sz1 = sz ∧ sz2 = sz ∧ (n + m) * by_ ≤ 140737488355328 ∧ n + m ≤ 140737488355328) (some (.own sz (n + m) (xs ++ ys)))
  | .own sz1 n xs, .sl m ys => gO (sz1 = sz ∧ ys.length = m * sz ∧ (n + m) * by_ ≤ 140737488355328 ∧ n + m ≤ 140737488355328) (some (.own sz (n + m) (xs ++ ys)))
  | _, _ => none
@[go_sem] theorem h01 {sz by_ sz1 sz2 n m : Nat} {xs ys : List AV} : apV sz by_ (.own sz1 n xs) (.own sz2 m ys) = gO (sz1 = sz ∧ sz2 = sz ∧ (n + m) * by_ ≤ 140737488355328 ∧ n + m ≤ 140737488355328) (some (.own sz (n + m) (xs ++ ys))) := (rfl)
@[go_sem] theorem h4n {sz by_ sz1 n m : Nat} {xs ys : List AV} : apV sz by_ (.own sz1 n xs) (.sl m ys) = gO (sz1 = sz ∧ ys.length = m * sz ∧ (n + m) * by_ ≤ 140737488355328 ∧ n + m ≤ 140737488355328) (some (.own sz (n + m) (xs ++ ys))) := (rfl)
def apF (st : St) (N d : Nat) (o : Option AV) : Option St := match o with
  | some v => some ((st.put (N + 1) .dead).thru N d v)
  | none => none
@[congr] theorem g32 {o o' : Option AV} (h : o = o') : apF st N d o = apF st N d o' := by rw [h]
@[go_sem] theorem g5y {v : AV} : apF st N d (some v) = some ((st.put (N + 1) .dead).thru N d v) := (rfl)
def ap2 (N d sz by_ : Nat) (r : Option (St × AV)) : Option St := match r with
  | some (st2, v) => apF (st2.put (N + 1) v) N d (apV sz by_ ((st2.put (N + 1) v).s N) v)
  | none => none
@[congr] theorem f8h {sz by_ : Nat} {r r' : Option (St × AV)} (h : r = r') : ap2 N d sz by_ r = ap2 N d sz by_ r' := by rw [h]
@[go_sem] theorem g39 {sz by_ : Nat} {v : AV} : ap2 N d sz by_ (some (st, v)) = apF (st.put (N + 1) v) N d (apV sz by_ ((st.put (N + 1) v).s N) v) := (rfl)
def ap1 (N d sz by_ : Nat) (y : X) (r : Option (St × Nat × Nat × List AV)) : Option St := match r with
  | some (st1, s, n, ks) => ap2 N d sz by_ (srS (st1.put N (.own s n ks)) N y (rdv (st1.put N (.own s n ks)) y))
  | none => none
@[congr] theorem f8x {sz by_ : Nat} {y : X} {r r' : Option (St × Nat × Nat × List AV)} (h : r = r') : ap1 N d sz by_ y r = ap1 N d sz by_ y r' := by rw [h]
@[go_sem] theorem g6s {sz by_ s n : Nat} {ks : List AV} {y : X} : ap1 N d sz by_ y (some (st, s, n, ks)) = ap2 N d sz by_ (srS (st.put N (.own s n ks)) N y (rdv (st.put N (.own s n ks)) y)) := (rfl)
@[go_sem] theorem h0g {T e : TypeId} {sz by_ : Nat} {x y : X} : evS G N (some d) (.app T e sz by_ x y) st = ap1 N d sz by_ y (tkS st N x (rdv st x)) := by
  simp only [evS, a1c, Ev.run_bind, d4o, Option.bind]
  cases tkS st N x (rdv st x) with
  | none => rfl
  | some r =>
    obtain ⟨st1, s, n, ks⟩ := r
    simp only [Option.map, e7s, ap1]
    cases srS (st1.put N (.own s n ks)) N y (rdv (st1.put N (.own s n ks)) y) with
    | none => rfl
    | some r =>
      obtain ⟨st2, v⟩ := r
      have h1 : (st2.put (N + 1) v).s (N + 1) = v := by simp
      simp only [a49, ap2, h1]
      have hown : ∀ sz1 n xs sz2 m ys, ((do
          a0i (sz1 == sz && sz2 == sz && decide ((n + m) * by_ ≤ 140737488355328) && decide (n + m ≤ 140737488355328))
          a3h (N + 1) .dead
          a4e N (some d) (.own sz (n + m) (xs ++ ys)) : Ev Unit).run (st2.put (N + 1) v)).map (·.2) = apF (st2.put (N + 1) v) N d (gO (sz1 = sz ∧ sz2 = sz ∧ (n + m) * by_ ≤ 140737488355328 ∧ n + m ≤ 140737488355328) (some (.own sz (n + m) (xs ++ ys)))) := by
        intro sz1 n xs sz2 m ys
        simp only [Ev.run_bind, a0d, Option.bind, gO]
        by_cases hc : sz1 = sz ∧ sz2 = sz ∧ (n + m) * by_ ≤ 140737488355328 ∧ n + m ≤ 140737488355328
        · have : (sz1 == sz && sz2 == sz && decide ((n + m) * by_ ≤ 140737488355328) && decide (n + m ≤ 140737488355328)) = true := by
            simp only [Bool.and_eq_true, decide_eq_true_eq, beq_iff_eq]
            exact ⟨⟨⟨hc.1, hc.2.1⟩, hc.2.2.1⟩, hc.2.2.2⟩
          simp only [this, if_true, if_pos hc]; rfl
        · have : (sz1 == sz && sz2 == sz && decide ((n + m) * by_ ≤ 140737488355328) && decide (n + m ≤ 140737488355328)) = false := by
            rw [Bool.eq_false_iff]; intro hh
            simp only [Bool.and_eq_true, decide_eq_true_eq, beq_iff_eq] at hh
            exact hc ⟨hh.1.1.1, hh.1.1.2, hh.1.2, hh.2⟩
          simp only [this, Bool.false_eq_true, if_false, if_neg hc]; rfl
      have hsl : ∀ sz1 n xs m ys, ((do
          a0i (sz1 == sz && decide (ys.length = m * sz) && decide ((n + m) * by_ ≤ 140737488355328) && decide (n + m ≤ 140737488355328))
          a3h (N + 1) .dead
          a4e N (some d) (.own sz (n + m) (xs ++ ys)) : Ev Unit).run (st2.put (N + 1) v)).map (·.2) = apF (st2.put (N + 1) v) N d (gO (sz1 = sz ∧ ys.length = m * sz ∧ (n + m) * by_ ≤ 140737488355328 ∧ n + m ≤ 140737488355328) (some (.own sz (n + m) (xs ++ ys)))) := by
        intro sz1 n xs m ys
        simp only [Ev.run_bind, a0d, Option.bind, gO]
        by_cases hc : sz1 = sz ∧ ys.length = m * sz ∧ (n + m) * by_ ≤ 140737488355328 ∧ n + m ≤ 140737488355328
        · have : (sz1 == sz && decide (ys.length = m * sz) && decide ((n + m) * by_ ≤ 140737488355328) && decide (n + m ≤ 140737488355328)) = true := by
            simp only [Bool.and_eq_true, decide_eq_true_eq, beq_iff_eq]
            exact ⟨⟨⟨hc.1, hc.2.1⟩, hc.2.2.1⟩, hc.2.2.2⟩
          simp only [this, if_true, if_pos hc]; rfl
        · have : (sz1 == sz && decide (ys.length = m * sz) && decide ((n + m) * by_ ≤ 140737488355328) && decide (n + m ≤ 140737488355328)) = false := by
            rw [Bool.eq_false_iff]; intro hh
            simp only [Bool.and_eq_true, decide_eq_true_eq, beq_iff_eq] at hh
            exact hc ⟨hh.1.1.1, hh.1.1.2, hh.1.2, hh.2⟩
          simp only [this, Bool.false_eq_true, if_false, if_neg hc]; rfl
      cases hs : (st2.put (N + 1) v).s N <;> try rfl
      cases v <;> first | rfl | exact hown _ _ _ _ _ _ | exact hsl _ _ _ _ _
def e1d (N : Nat) : List (Nat × Nat × X) → St → Option St
  | [], st => some st
  | (off, sz, x) :: rest, st => match giv st N x (rdv st x) with
    | some (st1, cs) => match st1.s (N + 1) with
      | .agg zs => gO (cs.length = sz ∧ off + sz ≤ zs.length) (e1d N rest ((st1.put N .dead).put (N + 1) (.agg (a0p zs off cs))))
      | _ => none
    | none => none
@[congr] theorem f4d {l l' : List (Nat × Nat × X)} {st' : St} (hl : l = l') (h : st = st') : e1d N l st = e1d N l' st' := by rw [hl, h]
@[go_sem] theorem g66 : e1d N [] st = some st := (rfl)
def f2z (N off sz : Nat) (rest : List (Nat × Nat × X)) (st : St) (cs : List AV) (v : AV) : Option St := match v with
  | .agg zs => gO (cs.length = sz ∧ off + sz ≤ zs.length) (e1d N rest ((st.put N .dead).put (N + 1) (.agg (a0p zs off cs))))
  | _ => none
@[congr] theorem f4v {off sz : Nat} {rest : List (Nat × Nat × X)} {cs : List AV} {v v' : AV} (h : v = v') : f2z N off sz rest st cs v = f2z N off sz rest st cs v' := by rw [h]
@[go_sem] theorem g4k {off sz : Nat} {rest : List (Nat × Nat × X)} {cs zs : List AV} : f2z N off sz rest st cs (.agg zs) = gO (cs.length = sz ∧ off + sz ≤ zs.length) (e1d N rest ((st.put N .dead).put (N + 1) (.agg (a0p zs off cs)))) := (rfl)
def g0q (N off sz : Nat) (rest : List (Nat × Nat × X)) (r : Option (St × List AV)) : Option St := match r with
  | some (st1, cs) => f2z N off sz rest st1 cs (st1.s (N + 1))
  | none => none
@[congr] theorem f4q {off sz : Nat} {rest : List (Nat × Nat × X)} {r r' : Option (St × List AV)} (h : r = r') : g0q N off sz rest r = g0q N off sz rest r' := by rw [h]
@[go_sem] theorem g0g {off sz : Nat} {rest : List (Nat × Nat × X)} {cs : List AV} : g0q N off sz rest (some (st, cs)) = f2z N off sz rest st cs (st.s (N + 1)) := (rfl)
@[go_sem] theorem f9y {off sz : Nat} {x : X} {rest : List (Nat × Nat × X)} : e1d N ((off, sz, x) :: rest) st = g0q N off sz rest (giv st N x (rdv st x)) := by
  simp only [e1d, g0q]
  cases giv st N x (rdv st x) with
  | none => rfl
  | some r => obtain ⟨st1, cs⟩ := r; simp only [f2z]
theorem c1i : ∀ (l : List (Nat × Nat × X)) (st : St), (c05 N l).run st = (e1d N l st).map fun st => ((), st)
  | [], st => rfl
  | (off, sz, x) :: rest, st => by
    simp only [c05, Ev.run_bind, c0w, Option.bind, e1d]
    cases giv st N x (rdv st x) with
    | none => rfl
    | some r =>
      obtain ⟨st1, cs⟩ := r
      have hN : (st1.put N (.agg cs)).s N = .agg cs := by simp
      have hN1 : (st1.put N (.agg cs)).s (N + 1) = st1.s (N + 1) := by simp
      simp only [Option.map, d9p, Ev.run_bind, a49, Option.bind, hN, Ev.run_pure, hN1]
      cases st1.s (N + 1) <;> try rfl
      rename_i zs
      simp only [Ev.run_pure, a0d, gO]
      by_cases hc : cs.length = sz ∧ off + sz ≤ zs.length
      · simp only [hc.1, hc.2, decide_true, Bool.and_self, if_true, and_self, a7p, c2l (show (a0e (AV.agg cs)).isSome = false from rfl)]
        exact c1i rest _
      · have : (decide (cs.length = sz) && decide (off + sz ≤ zs.length)) = false := by
          rw [Bool.eq_false_iff]; intro hh
          simp only [Bool.and_eq_true, decide_eq_true_eq] at hh
          exact hc hh
        simp only [this, Bool.false_eq_true, if_false, if_neg hc]
def f7t (st : St) (N d : Nat) (v : AV) : Option St := match v with
  | .agg ks => some ((st.put (N + 1) .dead).put d (.agg ks))
  | _ => none
@[congr] theorem f2r {v v' : AV} (h : v = v') : f7t st N d v = f7t st N d v' := by rw [h]
@[go_sem] theorem g5k {ks : List AV} : f7t st N d (.agg ks) = some ((st.put (N + 1) .dead).put d (.agg ks)) := (rfl)
def g1x (N d : Nat) (o : Option St) : Option St := match o with
  | some st => f7t st N d (st.s (N + 1))
  | none => none
@[congr] theorem f3s {o o' : Option St} (h : o = o') : g1x N d o = g1x N d o' := by rw [h]
@[go_sem] theorem f8z : g1x N d (some st) = f7t st N d (st.s (N + 1)) := (rfl)
@[go_sem] theorem g12 {T : TypeId} {zs : List AV} {parts : List (Nat × Nat × Nat × X)} : evS G N (some d) (.build T zs parts) st = g1x N d (e1d N (parts.map fun p => p.2) (st.put (N + 1) (.agg zs))) := by
  simp only [evS, a1c, Ev.run_bind, a7p, Option.bind, c1i]
  cases e1d N (parts.map fun p => p.2) (st.put (N + 1) (.agg zs)) with
  | none => rfl
  | some s =>
    simp only [Option.map, d9p, Ev.run_bind, a49, Option.bind, g1x]
    cases s.s (N + 1) <;> rfl
def f9q (st : St) (N d sz len : Nat) (v : AV) : Option St := match v with
  | .agg ks => some (st.thru (N + 1) d (.own sz len ks))
  | _ => none
@[congr] theorem f3q {sz len : Nat} {v v' : AV} (h : v = v') : f9q st N d sz len v = f9q st N d sz len v' := by rw [h]
@[go_sem] theorem g6t {sz len : Nat} {ks : List AV} : f9q st N d sz len (.agg ks) = some (st.thru (N + 1) d (.own sz len ks)) := (rfl)
def g3f (N d sz len : Nat) (o : Option St) : Option St := match o with
  | some st => f9q st N d sz len (st.s (N + 1))
  | none => none
@[congr] theorem f6e {sz len : Nat} {o o' : Option St} (h : o = o') : g3f N d sz len o = g3f N d sz len o' := by rw [h]
@[go_sem] theorem g3c {sz len : Nat} : g3f N d sz len (some st) = f9q st N d sz len (st.s (N + 1)) := (rfl)
@[go_sem] theorem f2y {T e : TypeId} {sz len : Nat} {zs : List AV} {parts : List (Nat × X)} : evS G N (some d) (.bslice T e sz len zs parts) st = g3f N d sz len (e1d N (parts.map fun p => (p.1 * sz, sz, p.2)) (st.put (N + 1) (.agg (c6h len zs)))) := by
  simp only [evS, a1c, Ev.run_bind, a7p, Option.bind, c1i]
  cases e1d N (parts.map fun p => (p.1 * sz, sz, p.2)) (st.put (N + 1) (.agg (c6h len zs))) with
  | none => rfl
  | some s =>
    simp only [Option.map, d9p, Ev.run_bind, a49, Option.bind, g3f]
    cases s.s (N + 1) <;> rfl
def f96 (N d sz : Nat) (r : Option (St × List AV)) : Option St := match r with
  | some (st1, cs) => gO (cs.length = sz) (some ((st1.put N (.agg cs)).thru N d (.var cs)))
  | none => none
@[congr] theorem f3r {sz : Nat} {r r' : Option (St × List AV)} (h : r = r') : f96 N d sz r = f96 N d sz r' := by rw [h]
@[go_sem] theorem f8c {sz : Nat} {cs : List AV} : f96 N d sz (some (st, cs)) = gO (cs.length = sz) (some ((st.put N (.agg cs)).thru N d (.var cs))) := (rfl)
@[go_sem] theorem g9x {T : TypeId} {sz : Nat} {x : X} : evS G N (some d) (.box T sz x) st = f96 N d sz (giv st N x (rdv st x)) := by
  simp only [evS, a1c, Ev.run_bind, c0w, Option.bind]
  cases giv st N x (rdv st x) with
  | none => rfl
  | some r =>
    obtain ⟨st1, cs⟩ := r
    have hN : (st1.put N (.agg cs)).s N = .agg cs := by simp
    simp only [Option.map, d9p, Ev.run_bind, a49, Option.bind, hN, Ev.run_pure, a0d, f96, gO]
    by_cases hc : cs.length = sz
    · simp only [hc, decide_true, if_true]; rfl
    · simp only [hc, decide_false, Bool.false_eq_true, if_false]
def g3v (st : St) (N d sz by_ : Nat) (zs : List AV) (l c : Option Int) : Option St := match l, c with
  | some n, some m => gO (0 ≤ n ∧ n ≤ m ∧ m * by_ ≤ 140737488355328 ∧ m ≤ 140737488355328) (some (st.thru N d (.own sz n.toNat (c6h n.toNat zs))))
  | _, _ => none
@[congr] theorem f5l {sz by_ : Nat} {zs : List AV} {l l' c c' : Option Int} (h : l = l') (h2 : c = c') : g3v st N d sz by_ zs l c = g3v st N d sz by_ zs l' c' := by rw [h, h2]
@[go_sem] theorem g2p {sz by_ : Nat} {zs : List AV} {n m : Int} : g3v st N d sz by_ zs (some n) (some m) = gO (0 ≤ n ∧ n ≤ m ∧ m * by_ ≤ 140737488355328 ∧ m ≤ 140737488355328) (some (st.thru N d (.own sz n.toNat (c6h n.toNat zs)))) := (rfl)
@[go_sem] theorem g88 {T e : TypeId} {sz by_ : Nat} {zs : List AV} {l c : X} : evS G N (some d) (.mks T e sz by_ zs l c) st = g3v st N d sz by_ zs (e55 (rdv st l)) (e55 (rdv st c)) := by
  simp only [evS, a1c, Ev.run_bind, c3v, Option.bind, g3v]
  cases e55 (rdv st l) with
  | none => rfl
  | some n =>
    simp only [Option.map, c3v]
    cases e55 (rdv st c) with
    | none => rfl
    | some m =>
      simp only [Option.map, Ev.run_bind, a0d, Option.bind, gO]
      by_cases hc : 0 ≤ n ∧ n ≤ m ∧ m * by_ ≤ 140737488355328 ∧ m ≤ 140737488355328
      · obtain ⟨h1, h2, h3, h4⟩ := hc
        simp only [h1, h2, h3, h4, decide_true, Bool.and_self, if_true, and_self]; rfl
      · have : (decide (0 ≤ n) && decide (n ≤ m) && decide (m * by_ ≤ 140737488355328) && decide (m ≤ 140737488355328)) = false := by
          rw [Bool.eq_false_iff]; intro hh
          simp only [Bool.and_eq_true, decide_eq_true_eq] at hh
          exact hc ⟨hh.1.1.1, hh.1.1.2, hh.1.2, hh.2⟩
        simp only [this, Bool.false_eq_true, if_false, if_neg hc]
def f5s (st : St) (d : Nat) (T : TypeId) (x : X) (v : AV) : Option St := match v with
  | .lit v => some (st.put d (.lit (.iface T v)))
  | .var ks => match x with
    | .t t => some ((st.set t (frz (.var ks))).put d (.ifc T (frz (.var ks))))
    | _ => none
  | .ip ks o => some (st.put d (.ifc T (.ip ks o)))
  | _ => none
@[congr] theorem f3h {T : TypeId} {x : X} {v v' : AV} (h : v = v') : f5s st d T x v = f5s st d T x v' := by rw [h]
@[go_sem] theorem h0r {T : TypeId} {x : X} : evS G N (some d) (.mki T x) st = f5s st d T x (rdv st x) := by
  simp only [evS, a1c, Ev.run_bind, a0r, Option.bind]
  cases hv : rdv st x <;> try rfl
  cases x <;> rfl
@[go_sem] theorem g6g {T : TypeId} {x : X} {v : Value} : f5s st d T x (.lit v) = some (st.put d (.lit (.iface T v))) := (rfl)
@[go_sem] theorem g7q {T : TypeId} {t : Nat} {ks : List AV} : f5s st d T (.t t) (.var ks) = some ((st.set t (.ip (a1n ks) 0)).put d (.ifc T (.ip (a1n ks) 0))) := (rfl)
@[go_sem] theorem g9a {T : TypeId} {x : X} {ks : List AV} {o : Nat} : f5s st d T x (.ip ks o) = some (st.put d (.ifc T (.ip ks o))) := (rfl)
def f1o (st : St) (N d : Nat) (x : X) (i : Nat) (ks : List AV) (k : Option AV) : Option St := match k with
  | some k => if a0l k then some (st.put d k) else match x with
    | .t t => some ((st.put t (.tup (ks.set i .dead))).thru N d k)
    | _ => none
  | none => none
@[congr] theorem f6t {x : X} {i : Nat} {ks : List AV} {k k' : Option AV} (h : k = k') : f1o st N d x i ks k = f1o st N d x i ks k' := by rw [h]
@[go_sem] theorem f8s {t i : Nat} {ks : List AV} {k : AV} : f1o st N d (.t t) i ks (some k) = iO (a0l k) (some (st.put d k)) (some ((st.put t (.tup (ks.set i .dead))).thru N d k)) := (rfl)
def g3t (st : St) (N d : Nat) (x : X) (i : Nat) (v : AV) : Option St := match v with
  | .tup ks => f1o st N d x i ks ks[i]?
  | _ => none
@[congr] theorem f3c {x : X} {i : Nat} {v v' : AV} (h : v = v') : g3t st N d x i v = g3t st N d x i v' := by rw [h]
@[go_sem] theorem g4q {x : X} {i : Nat} {ks : List AV} : g3t st N d x i (.tup ks) = f1o st N d x i ks ks[i]? := (rfl)
@[go_sem] theorem h1p {x : X} {i : Nat} : evS G N (some d) (.ext x i) st = g3t st N d x i (rdv st x) := by
  simp only [evS, a1c, Ev.run_bind, a0r, Option.bind]
  cases hv : rdv st x <;> try rfl
  rename_i ks
  simp only [g3t, Ev.run_bind, a00, Option.bind]
  cases ks[i]? with
  | none => rfl
  | some k =>
    simp only [Option.map, f1o]
    generalize a0l k = b
    cases b <;> cases x <;> rfl
def e80 (T : TypeId) (zs : List AV) (v : AV) : Option AV := match v, zs with
  | .lit .nilIface, [z] => some (.tup [z, .lit (.bool false)])
  | .lit (.iface T' u), [z] => some (.tup (if T' = T then [.lit u, .lit (.bool true)] else [z, .lit (.bool false)]))
  | .ifc T' k, [z] => if a0l k then some (.tup (if T' = T then [k, .lit (.bool true)] else [z, .lit (.bool false)])) else none
  | _, _ => none
@[congr] theorem f2q {T : TypeId} {zs : List AV} {v v' : AV} (h : v = v') : e80 T zs v = e80 T zs v' := by rw [h]
@[go_sem] theorem g38 {T : TypeId} {z : AV} : e80 T [z] (.lit .nilIface) = some (.tup [z, .lit (.bool false)]) := (rfl)
@[go_sem] theorem g71 {T T' : TypeId} {u : Value} {z : AV} : e80 T [z] (.lit (.iface T' u)) = some (.tup (if T' = T then [.lit u, .lit (.bool true)] else [z, .lit (.bool false)])) := (rfl)
@[go_sem] theorem g9o {T T' : TypeId} {ks : List AV} {o : Nat} {z : AV} : e80 T [z] (.ifc T' (.ip ks o)) = some (.tup (if T' = T then [.ip ks o, .lit (.bool true)] else [z, .lit (.bool false)])) := (rfl)
@[go_sem] theorem h0x {x : X} {xT T : TypeId} {zs : List AV} : evS G N (some d) (.tas x xT T zs) st = c3k st d (e80 T zs (rdv st x)) := by
  simp only [evS, a1c, Ev.run_bind, a0r, Option.bind]
  have two : ∀ v : AV, (∀ z, zs ≠ [z]) → ((match v, zs with
    | .lit .nilIface, [z] => setD (some d) (.tup [z, .lit (.bool false)])
    | .lit (.iface T' u), [z] => setD (some d) (.tup (if T' = T then [.lit u, .lit (.bool true)] else [z, .lit (.bool false)]))
    | .ifc T' k, [z] => do
      a0i (a0l k)
      setD (some d) (.tup (if T' = T then [k, .lit (.bool true)] else [z, .lit (.bool false)]))
    | _, _ => Ev.fail : Ev Unit).run st).map (·.2) = c3k st d (e80 T zs v) := by
    intro v h
    cases v <;> (cases zs with
      | nil => first | rfl | (rename_i v; cases v <;> rfl)
      | cons a l => cases l with
        | nil => exact (h a rfl).elim
        | cons b l => first | rfl | (rename_i v; cases v <;> rfl))
  cases zs with
  | nil => exact two _ (by simp)
  | cons z l =>
    cases l with
    | cons b l => exact two _ (by simp)
    | nil =>
      cases hv : rdv st x <;> try rfl
      · rename_i v; cases v <;> rfl
      · simp only [Ev.run_bind, a0d, Option.bind, e80]
        generalize a0l _ = b
        cases b <;> rfl
def cvI (k : IntKind) (v : AV) : Option AV := match v with
  | .lit (.int _ n) => some (.lit (.int k (k.wrap n)))
  | _ => none
@[congr] theorem f8l {k : IntKind} {v v' : AV} (h : v = v') : cvI k v = cvI k v' := by rw [h]
@[go_sem] theorem g8k {k k' : IntKind} {n : Int} : cvI k (.lit (.int k' n)) = some (.lit (.int k (k.wrap n))) := (rfl)
@[go_sem] theorem g7v {s t : TypeId} {k : IntKind} {x : X} : evS G N (some d) (.conv s t (.int k) x) st = c3k st d (cvI k (rdv st x)) := by
  simp only [evS, a1c, Ev.run_bind, a7l, Option.bind]
  cases rdv st x <;> try rfl
  rename_i v; cases v <;> rfl
def mmO (mx : Bool) (u v : AV) : Option AV := match u, v with
  | .lit (.int k a), .lit (.int k' b) => if k = k' then some (.lit (.int k (if mx then (if b > a then b else a) else (if b < a then b else a)))) else none
  | _, _ => none
@[go_sem] theorem h36 {mx : Bool} {k : IntKind} {a b : Int} : mmO mx (.lit (.int k a)) (.lit (.int k b)) = some (.lit (.int k (if mx then (if b > a then b else a) else (if b < a then b else a)))) := by simp [mmO]
@[go_sem] theorem h6p {mx : Bool} {ts : List TypeId} {x y : X} : evS G N (some d) (.mm mx ts [x, y]) st = c3k st d (mmO mx (rdv st x) (rdv st y)) := by
  simp only [evS, a1c, Ev.run_bind, a7l, Option.bind]
  cases rdv st x <;> try rfl
  simp only [a7l]
  cases rdv st y
  case lit.lit u v =>
    cases u <;> try rfl
    rename_i k a
    cases v <;> try rfl
    rename_i k' b
    simp only [mmO, Ev.run_bind, a0d, Option.bind]
    by_cases h : k = k'
    · simp only [h, decide_true, if_true]; rfl
    · simp only [h, decide_false, Bool.false_eq_true, if_false]; rfl
  all_goals first | rfl | (rename_i u; cases u <;> rfl) | (rename_i u _; cases u <;> rfl) | (rename_i u _ _; cases u <;> rfl) | (rename_i u _ _ _; cases u <;> rfl) | (rename_i u _ _ _ _; cases u <;> rfl) | (rename_i u _ _ _ _ _; cases u <;> rfl)
def e1t (st : St) : List X → Option (List AV)
  | [] => some []
  | x :: xs => match rdv st x with
    | .var _ => match x with
      | .t t => (e1t st xs).map fun ks => .ref t [] 0 (st.ep t) :: ks
      | _ => none
    | .own _ _ _ => none
    | .dead => none
    | .agg _ => none
    | .tup _ => none
    | .ifc _ _ => none
    | .bor _ _ _ _ _ => none
    | k => (e1t st xs).map fun ks => k :: ks
theorem c59 : ∀ (xs : List X), (c83 xs).run st = (e1t st xs).map fun ks => (ks, st)
  | [] => rfl
  | x :: xs => by
    have ih := c59 xs
    simp only [c83, Ev.run_bind, a0r, Option.bind, e1t]
    cases hv : rdv st x <;> try (first | rfl | (simp only [Ev.run_bind, ih, Option.bind]; cases e1t st xs <;> rfl))
    cases x <;> try rfl
    simp only [c7z, Ev.run, Ev.run_bind, ih, Option.bind, rde]
    cases e1t st xs <;> rfl
def e89 (x : X) (v : AV) (st : St) (r : Option (List AV)) : Option (List AV) := match v with
    | .var _ => match x with
      | .t t => r.map fun ks => .ref t [] 0 (st.ep t) :: ks
      | _ => none
    | .own _ _ _ => none
    | .dead => none
    | .agg _ => none
    | .tup _ => none
    | .ifc _ _ => none
    | .bor _ _ _ _ _ => none
    | k => r.map fun ks => k :: ks
@[go_sem] theorem g6i : e1t st [] = some [] := (rfl)
@[go_sem] theorem g0b {x : X} {xs : List X} : e1t st (x :: xs) = e89 x (rdv st x) st (e1t st xs) := by
  simp only [e1t, e89]
@[go_sem] theorem g5x {t : Nat} {ks l : List AV} : e89 (.t t) (.var ks) st (some l) = some (.ref t [] 0 (st.ep t) :: l) := (rfl)
@[go_sem] theorem g4t {x : X} {v : Value} {l : List AV} : e89 x (.lit v) st (some l) = some (.lit v :: l) := (rfl)
@[go_sem] theorem h0t {x : X} {n : Nat} {ks l : List AV} : e89 x (.sl n ks) st (some l) = some (.sl n ks :: l) := (rfl)
@[go_sem] theorem g90 {x : X} {n : Nat} {ks l : List AV} : e89 x (.ip ks n) st (some l) = some (.ip ks n :: l) := (rfl)
@[go_sem] theorem h0k {x : X} {f : FuncId} {a b l : List AV} : e89 x (.fn f a b) st (some l) = some (.fn f a b :: l) := (rfl)
@[go_sem] theorem g5s {x : X} {t : Nat} {q : List Nat} {o e : Nat} {l : List AV} : e89 x (.ref t q o e) st (some l) = some (.ref t q o e :: l) := (rfl)
def h6i (f : FuncId) (a b : Option (List AV)) : Option AV := match a, b with
  | some a, some b => some (.fn f a b)
  | _, _ => none
@[go_sem] theorem f7l {f : FuncId} {a b : List AV} : h6i f (some a) (some b) = some (.fn f a b) := (rfl)
@[go_sem] theorem h3v {f : FuncId} {fs cs : List X} : evS G N (some d) (.mkf f fs cs) st = c3k st d (h6i f (e1t st fs) (e1t st cs)) := by
  simp only [evS, a1c, Ev.run_bind, c59, Option.bind]
  cases e1t st fs with
  | none => rfl
  | some a =>
    simp only [Option.map, c59]
    cases e1t st cs <;> rfl
def h23 (G : Nat → Option Value) (b : BinOp) (tp : TypeId) (d : Option Nat) (u v : Value) : Ev Unit := match u, v with
    | .iface t1 (.pointer (some a)), .iface t2 (.pointer (some c)) => do
      a0i (t1 == tp && t2 == tp && (decide (a = c) || ((G a.block).isSome && (G c.block).isSome)))
      match b with
      | .eql => setD d (.lit (.bool (decide (a = c))))
      | .neq => setD d (.lit (.bool (!(decide (a = c)))))
      | _ => .fail
    | _, _ => .fail
def f9d (G : Nat → Option Value) (b : BinOp) (tp : TypeId) (st : St) (d : Nat) (u v : Option Value) : Option St := match u, v with
  | some u, some v => ((h23 G b tp (some d) u v).run st).map (·.2)
  | _, _ => none
@[congr] theorem f5u {b : BinOp} {tp : TypeId} {u v u' v' : Option Value} (h : u = u') (h2 : v = v') : f9d G b tp st d u v = f9d G b tp st d u' v' := by rw [h, h2]
def g9e (b : BinOp) (c : Bool) : Option AV := match b with
  | .eql => some (.lit (.bool c))
  | .neq => some (.lit (.bool (!c)))
  | _ => none
@[go_sem] theorem g57 {c : Bool} : g9e .eql c = some (.lit (.bool c)) := (rfl)
@[go_sem] theorem g4i {c : Bool} : g9e .neq c = some (.lit (.bool !c)) := (rfl)
@[go_sem] theorem g35 {b : BinOp} {tp t1 t2 : TypeId} {a c : Addr} : f9d G b tp st d (some (.iface t1 (.pointer (some a)))) (some (.iface t2 (.pointer (some c)))) = gO (t1 = tp ∧ t2 = tp ∧ (a = c ∨ ((G a.block).isSome = true ∧ (G c.block).isSome = true))) (c3k st d (g9e b (decide (a = c)))) := by
  simp only [f9d, h23, gO, Ev.run_bind, a0d, Option.bind]
  by_cases h : t1 = tp ∧ t2 = tp ∧ (a = c ∨ ((G a.block).isSome = true ∧ (G c.block).isSome = true))
  · have : (t1 == tp && t2 == tp && (decide (a = c) || ((G a.block).isSome && (G c.block).isSome))) = true := by
      simp only [Bool.and_eq_true, Bool.or_eq_true, beq_iff_eq, decide_eq_true_eq]; exact ⟨⟨h.1, h.2.1⟩, h.2.2⟩
    rw [if_pos h]
    simp only [this, if_true]
    cases b <;> rfl
  · have : (t1 == tp && t2 == tp && (decide (a = c) || ((G a.block).isSome && (G c.block).isSome))) = false := by
      rw [Bool.eq_false_iff]; intro hh
      simp only [Bool.and_eq_true, Bool.or_eq_true, beq_iff_eq, decide_eq_true_eq] at hh
      exact h ⟨hh.1.1, hh.1.2, hh.2⟩
    rw [if_neg h]
    simp only [this, Bool.false_eq_true, if_false]; rfl
@[go_sem] theorem g9p {b : BinOp} {T tp te : TypeId} {x y : X} {yT : TypeId} : evS G N (some d) (.eqs b T tp te x y yT) st = f9d G b tp st d (f5r (rdv st x)) (f5r (rdv st y)) := by
  have e : a1c G N (some d) (.eqs b T tp te x y yT) = (d5e x >>= fun u => d5e y >>= fun v => h23 G b tp (some d) u v) := rfl
  simp only [evS, e, Ev.run_bind, d67, Option.bind]
  cases f5r (rdv st x) with
  | none => rfl
  | some u =>
    simp only [Option.map, d67]
    cases f5r (rdv st y) <;> rfl
end
end Go.Ideal
end
section
set_option linter.unusedVariables false
set_option linter.unusedSimpArgs false
namespace Go.Ideal
section
variable {P : Program} {G : Nat → Option Value} {N : Nat} {st : St} {K : St → Prop}
def gvB (st : St) (N t : Nat) (q : List Nat) (lo n j : Nat) (k : Option AV) : Option St := match k with
  | some (.own sz n0 ks) => gO (lo = 0 ∧ t < N ∧ n ≤ n0) (some ((st.set t (a0s (st.s t) q .dead)).put j (.own sz n (ks.take (n * sz)))))
  | _ => none
@[congr] theorem f7p {t : Nat} {q : List Nat} {lo n j : Nat} {k k' : Option AV} (h : k = k') : gvB st N t q lo n j k = gvB st N t q lo n j k' := by rw [h]
@[go_sem] theorem h3t {t : Nat} {q : List Nat} {lo n j sz n0 : Nat} {ks : List AV} : gvB st N t q lo n j (some (.own sz n0 ks)) = gO (lo = 0 ∧ t < N ∧ n ≤ n0) (some ((st.set t (a0s (st.s t) q .dead)).put j (.own sz n (ks.take (n * sz))))) := (rfl)
def gvS (st : St) (N : Nat) (x : X) (j : Nat) (v : AV) : Option St := match v with
  | .dead => none
  | .bor t q lo n e => gvB st N t q lo n j (a2r st t q e)
  | v => if a0k v then ((a37 x j v).run st).map (·.2) else none
@[congr] theorem g3i {x : X} {j : Nat} {v v' : AV} (h : v = v') : gvS st N x j v = gvS st N x j v' := by rw [h]
theorem e5l (x : X) (j : Nat) : ((d8i N x j).run st).map (·.2) = gvS st N x j (rdv st x) := by
  simp only [d8i, Ev.run_bind, a0r, Option.bind]
  cases hv : rdv st x
  case dead => rfl
  case bor t q lo n e =>
    simp only [gvS, Ev.run_bind, a1i, Option.bind, a0d]
    by_cases he : e = st.ep t
    · subst he
      simp only [a2r, if_true, beq_self_eq_true, Bool.true_and]
      cases hk : a0c (st.s t) q with
      | none =>
        simp only [gvB]
        generalize (lo == 0 && decide (t < N)) = b
        cases b
        · rfl
        · simp only [if_true, a00, hk]; rfl
      | some k =>
        by_cases h1 : lo = 0
        · by_cases h2 : t < N
          · simp only [h1, h2, beq_self_eq_true, decide_true, Bool.and_self, if_true, a00, hk]
            cases k <;> try rfl
            rename_i sz n0 ks
            simp only [Option.map, gvB, gO, Ev.run_bind, a0d, Option.bind, h2, true_and]
            by_cases h3 : n ≤ n0
            · simp only [h3, decide_true, if_true]; rfl
            · simp only [h3, decide_false, Bool.false_eq_true, if_false]
          · simp only [h2, decide_false, Bool.and_false, Bool.false_eq_true, if_false]
            cases k <;> try rfl
            simp only [gvB, gO, h2, false_and, and_false, if_false]; rfl
        · have : (lo == 0) = false := by simpa using h1
          simp only [this, Bool.false_and, Bool.false_eq_true, if_false]
          cases k <;> try rfl
          simp only [gvB, gO, h1, false_and, if_false]; rfl
    · have : (e == st.ep t) = false := by simpa using he
      simp only [this, Bool.false_and, Bool.false_eq_true, if_false, a2r, he]; rfl
  all_goals (simp only [gvS, Ev.run_bind, a0d, Option.bind]; generalize a0k _ = b; cases b <;> rfl)
section
variable {j : Nat}
def e9v (b : Bool) (r : Option St) : Option St := if b then r else none
@[congr] theorem f6o {b b' : Bool} {r : Option St} (h : b = b') : e9v b r = e9v b' r := by rw [h]
@[go_sem] theorem h45 {r : Option St} : e9v true r = r := (rfl)
@[go_sem] theorem h2z {x : X} {t : Nat} {q : List Nat} {lo n e : Nat} : gvS st N x j (.bor t q lo n e) = gvB st N t q lo n j (a2r st t q e) := (rfl)
@[go_sem] theorem h2l {x : X} {v : Value} : gvS st N x j (.lit v) = some (st.put j (.lit v)) := by cases x <;> rfl
@[go_sem] theorem h4s {x : X} {n : Nat} {ks : List AV} : gvS st N x j (.sl n ks) = some (st.put j (.sl n ks)) := by cases x <;> rfl
@[go_sem] theorem h46 {x : X} {n : Nat} {ks : List AV} : gvS st N x j (.ip ks n) = some (st.put j (.ip ks n)) := by cases x <;> rfl
@[go_sem] theorem h6c {x : X} {f : FuncId} {a b : List AV} : gvS st N x j (.fn f a b) = e9v (a0k (.fn f a b)) (some (st.put j (.fn f a b))) := by
  simp only [gvS, e9v]; generalize a0k _ = r; cases r <;> cases x <;> rfl
@[go_sem] theorem g9r {t sz n : Nat} {ks : List AV} : gvS st N (.t t) j (.own sz n ks) = some ((st.put t .dead).put j (.own sz n ks)) := (rfl)
@[go_sem] theorem h4m {t sz n : Nat} {ks : List AV} : gvS st N (.nl t) j (.own sz n ks) = some (st.put j (.own sz n ks)) := (rfl)
@[go_sem] theorem g8t {t : Nat} {ks : List AV} : gvS st N (.t t) j (.var ks) = some ((st.put t .dead).put j (.var ks)) := (rfl)
@[go_sem] theorem h3g {t : Nat} {ks : List AV} : gvS st N (.t t) j (.agg ks) = iO (a0j ks) (some (st.put j (.agg ks))) (some ((st.put t .dead).put j (.agg ks))) := by
  by_cases h : a0j ks = true
  · simp only [gvS, a0k, if_true, a37, a0l, iO, h]; rfl
  · simp only [gvS, a0k, if_true, a37, a0l, iO, h]; rfl
@[go_sem] theorem h3w {t : Nat} {ks : List AV} : gvS st N (.t t) j (.tup ks) = iO (a0j ks) (some (st.put j (.tup ks))) (some ((st.put t .dead).put j (.tup ks))) := by
  by_cases h : a0j ks = true
  · simp only [gvS, a0k, if_true, a37, a0l, iO, h]; rfl
  · simp only [gvS, a0k, if_true, a37, a0l, iO, h]; rfl
@[go_sem] theorem g8s {t : Nat} {T : TypeId} {k : AV} : gvS st N (.t t) j (.ifc T k) = iO (a0l k) (some (st.put j (.ifc T k))) (some ((st.put t .dead).put j (.ifc T k))) := by
  by_cases h : a0l k = true
  · simp only [gvS, a0k, if_true, a37, a0l, iO, h]; rfl
  · simp only [gvS, a0k, if_true, a37, a0l, iO, h]; rfl
end
def psB (st : St) (N t : Nat) (q : List Nat) (lo n j : Nat) (k : Option AV) : Option St := match k with
  | some (.own sz n0 ks) => gO (t < N ∧ lo + n ≤ n0) (some ((st.set t (a0s (st.s t) q (frz (.own sz n0 ks)))).put j (.sl n (((a1n ks).drop (lo * sz)).take (n * sz)))))
  | _ => none
@[congr] theorem f9t {t : Nat} {q : List Nat} {lo n j : Nat} {k k' : Option AV} (h : k = k') : psB st N t q lo n j k = psB st N t q lo n j k' := by rw [h]
@[go_sem] theorem h0q {t : Nat} {q : List Nat} {lo n j sz n0 : Nat} {ks : List AV} : psB st N t q lo n j (some (.own sz n0 ks)) = gO (t < N ∧ lo + n ≤ n0) (some ((st.set t (a0s (st.s t) q (frz (.own sz n0 ks)))).put j (.sl n (((a1n ks).drop (lo * sz)).take (n * sz))))) := (rfl)
def psS (st : St) (N : Nat) (x : X) (j : Nat) (v : AV) : Option St := match v with
  | .dead => none
  | .bor t q lo n e => psB st N t q lo n j (a2r st t q e)
  | v => if a0k v then ((a3r x j v).run st).map (·.2) else none
@[congr] theorem f7y {x : X} {j : Nat} {v v' : AV} (h : v = v') : psS st N x j v = psS st N x j v' := by rw [h]
theorem e38 (x : X) (j : Nat) : ((d06 N x j).run st).map (·.2) = psS st N x j (rdv st x) := by
  simp only [d06, Ev.run_bind, a0r, Option.bind]
  cases hv : rdv st x
  case dead => rfl
  case bor t q lo n e =>
    simp only [psS, Ev.run_bind, a1i, Option.bind, a0d]
    by_cases he : e = st.ep t
    · subst he
      simp only [a2r, if_true, beq_self_eq_true, Bool.true_and]
      cases hk : a0c (st.s t) q with
      | none =>
        simp only [psB]
        generalize (decide (t < N)) = b
        cases b
        · rfl
        · simp only [if_true, a00, hk]; rfl
      | some k =>
        by_cases h2 : t < N
        · simp only [h2, decide_true, if_true, a00, hk]
          cases k <;> try rfl
          rename_i sz n0 ks
          simp only [Option.map, psB, gO, Ev.run_bind, a0d, Option.bind, h2, true_and]
          by_cases h3 : lo + n ≤ n0
          · simp only [h3, decide_true, if_true]; rfl
          · simp only [h3, decide_false, Bool.false_eq_true, if_false]
        · simp only [h2, decide_false, Bool.false_eq_true, if_false]
          cases k <;> try rfl
          simp only [psB, gO, h2, false_and, if_false]; rfl
    · have : (e == st.ep t) = false := by simpa using he
      simp only [this, Bool.false_and, Bool.false_eq_true, if_false, a2r, he]; rfl
  all_goals (simp only [psS, Ev.run_bind, a0d, Option.bind]; generalize a0k _ = b; cases b <;> rfl)
section
variable {j : Nat}
@[go_sem] theorem h3p {x : X} {t : Nat} {q : List Nat} {lo n e : Nat} : psS st N x j (.bor t q lo n e) = psB st N t q lo n j (a2r st t q e) := (rfl)
@[go_sem] theorem g95 {x : X} {v : Value} : psS st N x j (.lit v) = some (st.put j (.lit v)) := by cases x <;> rfl
@[go_sem] theorem h7j {x : X} {n : Nat} {ks : List AV} : psS st N x j (.sl n ks) = some (st.put j (.sl n ks)) := by cases x <;> rfl
@[go_sem] theorem h5x {x : X} {n : Nat} {ks : List AV} : psS st N x j (.ip ks n) = some (st.put j (.ip ks n)) := by cases x <;> rfl
@[go_sem] theorem h6g {x : X} {f : FuncId} {a b : List AV} : psS st N x j (.fn f a b) = e9v (a0k (.fn f a b)) (some (st.put j (.fn f a b))) := by
  simp only [psS, e9v]; generalize a0k _ = r; cases r <;> cases x <;> rfl
@[go_sem] theorem g8o {t sz n : Nat} {ks : List AV} : psS st N (.t t) j (.own sz n ks) = some ((st.set t (.sl n (a1n ks))).put j (.sl n (a1n ks))) := (rfl)
@[go_sem] theorem h4v {t sz n : Nat} {ks : List AV} : psS st N (.nl t) j (.own sz n ks) = some (st.put j (.sl n (a1n ks))) := (rfl)
@[go_sem] theorem h2e {t : Nat} {ks : List AV} : psS st N (.t t) j (.var ks) = some ((st.set t (.ip (a1n ks) 0)).put j (.ip (a1n ks) 0)) := (rfl)
@[go_sem] theorem h2u {t : Nat} {ks : List AV} : psS st N (.t t) j (.agg ks) = iO (a0j ks) (some (st.put j (.agg ks))) (some ((st.set t (.agg (a1n ks))).put j (.agg (a1n ks)))) := by
  by_cases h : a0j ks = true
  · simp only [psS, a0k, if_true, a3r, a0l, iO, h]; rfl
  · simp only [psS, a0k, if_true, a3r, a0l, iO, h]; rfl
@[go_sem] theorem h1e {t : Nat} {ks : List AV} : psS st N (.t t) j (.tup ks) = iO (a0j ks) (some (st.put j (.tup ks))) (some ((st.set t (.tup (a1n ks))).put j (.tup (a1n ks)))) := by
  by_cases h : a0j ks = true
  · simp only [psS, a0k, if_true, a3r, a0l, iO, h]; rfl
  · simp only [psS, a0k, if_true, a3r, a0l, iO, h]; rfl
@[go_sem] theorem h2s {t : Nat} {T : TypeId} {k : AV} : psS st N (.t t) j (.ifc T k) = iO (a0l k) (some (st.put j (.ifc T k))) (some ((st.set t (.ifc T (frz k))).put j (.ifc T (frz k)))) := by
  by_cases h : a0l k = true
  · simp only [psS, a0k, if_true, a3r, a0l, iO, h]; rfl
  · simp only [psS, a0k, if_true, a3r, a0l, iO, h]; rfl
end
def gvs (N : Nat) : Nat → List (Bool × X) → Option St → Option St
  | _, _, none => none
  | _, [], some st => some st
  | j, (true, x) :: xs, some st => gvs N (j + 1) xs (gvS st N x j (rdv st x))
  | j, (false, _) :: xs, some st => gvs N (j + 1) xs (some st)
def pss (N : Nat) : Nat → List (Bool × X) → Option St → Option St
  | _, _, none => none
  | _, [], some st => some st
  | j, (false, x) :: xs, some st => pss N (j + 1) xs (psS st N x j (rdv st x))
  | j, (true, _) :: xs, some st => pss N (j + 1) xs (some st)
@[congr] theorem g0d {j : Nat} {xs : List (Bool × X)} {o o' : Option St} (h : o = o') : gvs N j xs o = gvs N j xs o' := by rw [h]
@[congr] theorem g2o {j : Nat} {xs : List (Bool × X)} {o o' : Option St} (h : o = o') : pss N j xs o = pss N j xs o' := by rw [h]
@[go_sem] theorem h4b {j : Nat} : gvs N j [] (some st) = some st := (rfl)
@[go_sem] theorem h8k {j : Nat} {x : X} {xs : List (Bool × X)} : gvs N j ((true, x) :: xs) (some st) = gvs N (j + 1) xs (gvS st N x j (rdv st x)) := (rfl)
@[go_sem] theorem h8d {j : Nat} {x : X} {xs : List (Bool × X)} : gvs N j ((false, x) :: xs) (some st) = gvs N (j + 1) xs (some st) := (rfl)
@[go_sem] theorem h0p {j : Nat} : pss N j [] (some st) = some st := (rfl)
@[go_sem] theorem h76 {j : Nat} {x : X} {xs : List (Bool × X)} : pss N j ((false, x) :: xs) (some st) = pss N (j + 1) xs (psS st N x j (rdv st x)) := (rfl)
@[go_sem] theorem h80 {j : Nat} {x : X} {xs : List (Bool × X)} : pss N j ((true, x) :: xs) (some st) = pss N (j + 1) xs (some st) := (rfl)
theorem e7f {j : Nat} {xs : List (Bool × X)} : gvs N j xs none = none := by cases xs <;> rfl
theorem e6y {j : Nat} {xs : List (Bool × X)} : pss N j xs none = none := by cases xs <;> rfl
theorem a89 : ∀ (xs : List (Bool × X)) (j : Nat) (st : St), ((a5r N j xs).run st).map (·.2) = gvs N j xs (some st)
  | [], j, st => rfl
  | (b, x) :: xs, j, st => by
    simp only [a5r, Ev.run_bind, Option.bind]
    cases b with
    | true =>
      have h := e5l (N := N) (st := st) x j
      simp only [if_true, gvs]
      rw [← h]
      cases (d8i N x j).run st with
      | none => simp [e7f]
      | some r => exact a89 xs (j + 1) r.2
    | false =>
      simp only [Bool.false_eq_true, if_false, Ev.run_pure]
      exact a89 xs (j + 1) st
theorem a38 : ∀ (xs : List (Bool × X)) (j : Nat) (st : St), ((a3x N j xs).run st).map (·.2) = pss N j xs (some st)
  | [], j, st => rfl
  | (b, x) :: xs, j, st => by
    simp only [a3x, Ev.run_bind, Option.bind]
    cases b with
    | false =>
      have h := e38 (N := N) (st := st) x j
      simp only [Bool.false_eq_true, if_false, pss]
      rw [← h]
      cases (d06 N x j).run st with
      | none => simp [e6y]
      | some r => exact a38 xs (j + 1) r.2
    | true =>
      simp only [if_true, Ev.run_pure]
      exact a38 xs (j + 1) st
def b82 (st : St) (N : Nat) (d : Option Nat) (res : AV) : St := match d with
  | some d => (st.clear N).thru N d res
  | none => st.clear N
@[go_sem] theorem g3z {d : Nat} {res : AV} : b82 st N (some d) res = (st.clear N).thru N d res := (rfl)
@[go_sem] theorem f9u {res : AV} : b82 st N none res = st.clear N := (rfl)
def cal (P : Program) (G : Nat → Option Value) (N : Nat) (d : Option Nat) (f : FuncId) (pre : List AV) (st1 st2 : St) (K : St → Prop) : Prop :=
  ∃ res, ACalls P G f pre res ∧ a0k res = true ∧ K (b82 (if a0w res then st1 else st2) N d res)
def e6r (P : Program) (G : Nat → Option Value) (N : Nat) (d : Option Nat) (f : FuncId) (n : Nat) (o1 o2 : Option St) (K : St → Prop) : Prop := match o1, o2 with
  | some st1, some st2 => cal P G N d f (a7b N n st2) st1 st2 K
  | _, _ => False
def f0q (P : Program) (G : Nat → Option Value) (N : Nat) (d : Option Nat) (f : FuncId) (args : List (Bool × X)) (o1 : Option St) (K : St → Prop) : Prop := e6r P G N d f args.length o1 (pss N (N + 2) args o1) K
@[congr] theorem f3b {d : Option Nat} {f : FuncId} {args : List (Bool × X)} {o1 o1' : Option St} (h : o1 = o1') : f0q P G N d f args o1 K = f0q P G N d f args o1' K := by rw [h]
@[congr] theorem f5j {d : Option Nat} {f : FuncId} {n : Nat} {o1 o2 o2' : Option St} (h : o2 = o2') : e6r P G N d f n o1 o2 K = e6r P G N d f n o1 o2' K := by rw [h]
@[congr] theorem g0t {d : Option Nat} {f : FuncId} {pre pre' : List AV} {st1 st2 : St} (h : pre = pre') : cal P G N d f pre st1 st2 K = cal P G N d f pre' st1 st2 K := by rw [h]
@[go_sem] theorem g0a {d : Option Nat} {f : FuncId} {args : List (Bool × X)} : f0q P G N d f args (some st) K = e6r P G N d f args.length (some st) (pss N (N + 2) args (some st)) K := (rfl)
@[go_sem] theorem g1y {d : Option Nat} {f : FuncId} {n : Nat} {st2 : St} : e6r P G N d f n (some st) (some st2) K = cal P G N d f (a7b N n st2) st st2 K := (rfl)
@[go_sem] theorem g1e {d : Option Nat} {f : FuncId} {args : List (Bool × X)} {tys : List TypeId} {rest : List AO} : b6q P G N (⟨d, .call f args tys, none⟩ :: rest) K st = f0q P G N d f args (gvs N (N + 2) args (some st)) (b6q P G N rest K) := by
  simp only [b6q, b60, c80, f03]
  rw [← a89]
  apply propext
  constructor
  · rintro ⟨st1, st2, res, st3, h1, h2, h3, h4, h5, h6⟩
    have e2 := a38 (N := N) args (N + 2) st1
    rw [h2] at e2
    simp only [h1, Option.map, f0q, e6r, ← e2]
    refine ⟨res, h3, h4, ?_⟩
    have : b82 (if a0w res then st1 else st2) N d res = st3 := by
      cases d with
      | none =>
        simp only [d8c, Ev.run_pure, Option.some.injEq, Prod.mk.injEq, true_and] at h5
        exact h5
      | some d =>
        simp only [d8c, a82, Option.some.injEq, Prod.mk.injEq, true_and] at h5
        exact h5
    rw [this]; exact h6
  · cases h1 : (a5r N (N + 2) args).run st with
    | none => intro h; simp only [Option.map, f0q, e6r] at h
    | some r =>
      obtain ⟨_, st1⟩ := r
      simp only [Option.map, f0q]
      rw [← a38]
      cases h2 : (a3x N (N + 2) args).run st1 with
      | none => intro h; simp only [Option.map, e6r] at h
      | some r2 =>
        obtain ⟨_, st2⟩ := r2
        simp only [Option.map, e6r]
        rintro ⟨res, h3, h4, h5⟩
        refine ⟨st1, st2, res, _, rfl, h2, h3, h4, ?_, h5⟩
        cases d <;> rfl
@[go_sem] theorem h24 : a7b N 0 st = [] := (rfl)
@[go_sem] theorem g8l : a7b N 1 st = [st.s (N + 2 + 0)] := (rfl)
@[go_sem] theorem h0b : a7b N 2 st = [st.s (N + 2 + 0), st.s (N + 2 + 1)] := (rfl)
@[go_sem] theorem h1d : a7b N 3 st = [st.s (N + 2 + 0), st.s (N + 2 + 1), st.s (N + 2 + 2)] := (rfl)
@[go_sem] theorem g8f : a7b N 4 st = [st.s (N + 2 + 0), st.s (N + 2 + 1), st.s (N + 2 + 2), st.s (N + 2 + 3)] := (rfl)
@[go_sem] theorem g8z : a7b N 5 st = [st.s (N + 2 + 0), st.s (N + 2 + 1), st.s (N + 2 + 2), st.s (N + 2 + 3), st.s (N + 2 + 4)] := (rfl)
@[go_sem] theorem g8g : a7b N 6 st = [st.s (N + 2 + 0), st.s (N + 2 + 1), st.s (N + 2 + 2), st.s (N + 2 + 3), st.s (N + 2 + 4), st.s (N + 2 + 5)] := (rfl)
theorem a0g {d : Option Nat} {f : FuncId} {pre : List AV} {st1 st2 : St} {res : AV} (hA : ACalls P G f pre res) (hn : a0k res = true) (hi : a0w res = true) (h : K (b82 st1 N d res)) : cal P G N d f pre st1 st2 K := ⟨res, hA, hn, by rw [hi]; exact h⟩
theorem f0f {d : Option Nat} {f : FuncId} {pre : List AV} {st1 st2 : St} {res : AV} (hA : ACalls P G f pre res) (hn : a0k res = true) (hi : a0w res = false) (h : K (b82 st2 N d res)) : cal P G N d f pre st1 st2 K := ⟨res, hA, hn, by rw [hi]; exact h⟩
theorem e5o {d : Option Nat} {f : FuncId} {pre : List AV} {st1 st2 : St} {res : AV} (hA : ACalls P G f pre res) (hn : a0k res = true) (h : K (b82 st1 N d res)) (h2 : K (b82 st2 N d res)) : cal P G N d f pre st1 st2 K := ⟨res, hA, hn, by split; exact h; exact h2⟩
inductive RV where
  | tmp (t : Nat)
  | cell (t : Nat)
  | cells (t sz : Nat)
def RV.ok (P : Program) (N : Nat) : RV → ResultVar → Bool
  | .tmp t, .tmp t' => t == t' && decide (t < N)
  | .cell t, .cell t' T => t == t' && decide (t < N) && d46 P T == some false
  | .cells t sz, .cell t' T => t == t' && decide (t < N) && d46 P T == some true && b9r P T sz
  | _, _ => false
def d41 (r : RV) (st : St) : Option AV := match r with
  | .tmp t => if a0k (st.s t) then some (st.s t) else none
  | .cell t => match st.s t with
    | .var [k] => some k
    | _ => none
  | .cells t sz => match st.s t with
    | .var ks => gO (ks.length = sz) (some (.agg ks))
    | _ => none
theorem d86 {r : RV} {v : ResultVar} {k : AV} (h : r.ok P N v = true) (hk : d41 r st = some k) : c2z P N st v = some k := by
  cases r with
  | tmp t =>
    cases v <;> simp only [RV.ok, Bool.and_eq_true, beq_iff_eq, decide_eq_true_eq, Bool.false_eq_true] at h
    obtain ⟨rfl, h⟩ := h
    simp only [d41] at hk
    simp only [c2z, h, decide_true, Bool.true_and]
    exact hk
  | cell t =>
    cases v <;> simp only [RV.ok, Bool.and_eq_true, beq_iff_eq, decide_eq_true_eq, Bool.false_eq_true] at h
    obtain ⟨⟨rfl, h1⟩, h2⟩ := h
    simp only [d41] at hk
    simp only [c2z, h1, if_true]
    split at hk
    · rename_i k' hs
      rw [hs]
      simp only [h2]
      exact hk
    · cases hk
  | cells t sz =>
    cases v <;> simp only [RV.ok, Bool.and_eq_true, beq_iff_eq, decide_eq_true_eq, Bool.false_eq_true] at h
    obtain ⟨⟨⟨rfl, h1⟩, h2⟩, h3⟩ := h
    simp only [d41] at hk
    simp only [c2z, h1, if_true]
    split at hk
    · rename_i ks hs
      simp only [gO] at hk
      split at hk
      · rename_i hl
        rw [hs]
        simp only [h2, hl, h3, if_true]
        exact hk
      · cases hk
    · cases hk
def rvL : List RV → St → Option (List AV)
  | [], _ => some []
  | r :: rs, st => match d41 r st, rvL rs st with
    | some k, some ks => some (k :: ks)
    | _, _ => none
def d7u (P : Program) (N : Nat) : List RV → List ResultVar → Bool
  | [], [] => true
  | r :: rs, v :: vs => r.ok P N v && d7u P N rs vs
  | _, _ => false
theorem c52 : ∀ {rs : List RV} {vs : List ResultVar} {ks : List AV}, d7u P N rs vs = true → rvL rs st = some ks → e9k P N st vs = some ks
  | [], [], ks, _, hk => hk
  | [], _ :: _, ks, h, _ => by cases h
  | _ :: _, [], ks, h, _ => by cases h
  | r :: rs, v :: vs, ks, h, hk => by
    simp only [d7u, Bool.and_eq_true] at h
    simp only [rvL] at hk
    split at hk
    · rename_i k ks' h1 h2
      simp only [e9k, d86 h.1 h1, c52 h.2 h2]
      exact hk
    · cases hk
def f3z (rs : List RV) (st : St) : Option AV := match rvL rs st with
  | some [k] => some k
  | some ks => some (.tup ks)
  | none => none
def f2h (rs : List RV) (res : AV) : Exit → St → Prop
  | .normal, st | .ret, st => f3z rs st = some res
  | _, _ => False
@[congr] theorem f5e {rs : List RV} {res : AV} {e : Exit} {st' : St} (h2 : st = st') : f2h rs res e st = f2h rs res e st' := by rw [h2]
def rv1 (r : RV) (v : AV) : Option AV := match r with
  | .tmp t => if a0k v then some v else none
  | .cell t => match v with
    | .var [k] => some k
    | _ => none
  | .cells t sz => match v with
    | .var ks => gO (ks.length = sz) (some (.agg ks))
    | _ => none
def avs (a : Option AV) (l : Option (List AV)) : Option (List AV) := match a, l with
  | some k, some ks => some (k :: ks)
  | _, _ => none
def f1x (l : Option (List AV)) : Option AV := match l with
  | some [k] => some k
  | some ks => some (.tup ks)
  | none => none
@[go_sem] theorem h6d {k : AV} : f1x (some [k]) = some k := (rfl)
@[go_sem] theorem h6s : f1x (some []) = some (.tup []) := (rfl)
@[go_sem] theorem h5j {a b : AV} {ks : List AV} : f1x (some (a :: b :: ks)) = some (.tup (a :: b :: ks)) := (rfl)
@[go_sem] theorem g7c {k : AV} {ks : List AV} : avs (some k) (some ks) = some (k :: ks) := (rfl)
@[go_sem] theorem g8m {t : Nat} {v : AV} : rv1 (.tmp t) v = if a0k v then some v else none := (rfl)
@[go_sem] theorem g6n {t : Nat} {k : AV} : rv1 (.cell t) (.var [k]) = some k := (rfl)
@[go_sem] theorem g09 {t sz : Nat} {ks : List AV} : rv1 (.cells t sz) (.var ks) = gO (ks.length = sz) (some (.agg ks)) := (rfl)
@[go_sem] theorem g9g : rvL [] st = some [] := (rfl)
@[go_sem] theorem g84 {t : Nat} {rs : List RV} : rvL (.tmp t :: rs) st = avs (rv1 (.tmp t) (st.s t)) (rvL rs st) := by
  simp only [rvL, avs, d41, rv1]
@[go_sem] theorem g5n {t : Nat} {rs : List RV} : rvL (.cell t :: rs) st = avs (rv1 (.cell t) (st.s t)) (rvL rs st) := by
  simp only [rvL, avs, d41, rv1]
@[go_sem] theorem g2i {t sz : Nat} {rs : List RV} : rvL (.cells t sz :: rs) st = avs (rv1 (.cells t sz) (st.s t)) (rvL rs st) := by
  simp only [rvL, avs, d41, rv1]
@[go_sem] theorem h7s {rs : List RV} {res : AV} : f2h rs res .normal st = (f1x (rvL rs st) = some res) := (rfl)
@[go_sem] theorem h5a {rs : List RV} {res : AV} : f2h rs res .ret st = (f1x (rvL rs st) = some res) := (rfl)
theorem e1y {rs : List RV} {vs : List ResultVar} {res : AV} (h : d7u P N rs vs = true) : ∀ e st, f2h rs res e st → f3m P N vs res e st := by
  intro e st hq
  have key : f3z rs st = some res → c4g P N st vs = some res := by
    intro hk
    unfold f3z at hk
    cases hl : rvL rs st with
    | none => rw [hl] at hk; cases hk
    | some ks =>
      rw [hl] at hk
      simp only [c4g, c52 h hl]
      exact hk
  cases e <;> first | exact key hq | exact hq
end
theorem ACalls.of_walk {P : Program} {G : Nat → Option Value} {f : FuncId} {fn : Func} {c : Code} {N : Nat} {vs : List ResultVar} {rs : List RV} {ic : IC} (hord : P.follows .mixedOrders = true) (hf : P.funcs[f]? = some fn) (hb : fn.body = some c) (hN : fn.ntmps = N) (hrs : fn.results.toList = vs) (hnd : (vs.map rvT).Nodup)
    (he : b4y c = ic.ec) (hok : ic.ok P N = true) (hr : d7u P N rs vs = true) {pre : List AV} {res : AV} (hsz : pre.length ≤ N) (h : AW P G N ic (f2h rs res) (St.init pre)) : ACalls P G f pre res :=
  c8t hf hb hN hrs hnd hsz ((e1n hord ic c _ _ he hok (IC.pin_nil ic) h).mono (e1y hr))
end Go.Ideal
end
section
set_option linter.unusedVariables false
set_option linter.unusedSimpArgs false
namespace Go.Ideal
section
variable {k : IntKind} {a b : Int}
theorem a4k {b : BinOp} {k : IntKind} {x y : Int} {v : Value} (h : a1d b (.int k x) (.int k y) = some v) {kd : Nat} (hk : kd = 0) : a1o b kd (.lit (.int k x)) (.lit (.int k y)) = some (.lit v) := by
  subst hk; simp [a1o, c3f, h]
theorem f1f : a1d .add (.int k a) (.int k b) = some (.int k (k.wrap (a + b))) := by simp [a1d, Op.intArith]; rfl
theorem e9u : a1d .sub (.int k a) (.int k b) = some (.int k (k.wrap (a - b))) := by simp [a1d, Op.intArith]; rfl
theorem f0d : a1d .mul (.int k a) (.int k b) = some (.int k (k.wrap (a * b))) := by simp [a1d, Op.intArith]; rfl
theorem f1p : a1d .eql (.int k a) (.int k b) = some (.bool (a == b)) := by simp [a1d, Op.intCmp]; rfl
theorem e9s : a1d .neq (.int k a) (.int k b) = some (.bool (a != b)) := by simp [a1d, Op.intCmp]; rfl
theorem e94 : a1d .lss (.int k a) (.int k b) = some (.bool (decide (a < b))) := by simp [a1d, Op.intCmp]; rfl
theorem f1l : a1d .leq (.int k a) (.int k b) = some (.bool (decide (a ≤ b))) := by simp [a1d, Op.intCmp]; rfl
theorem f1k : a1d .gtr (.int k a) (.int k b) = some (.bool (decide (a > b))) := by simp [a1d, Op.intCmp]; rfl
theorem e9x : a1d .geq (.int k a) (.int k b) = some (.bool (decide (a ≥ b))) := by simp [a1d, Op.intCmp]; rfl
@[go_sem] theorem h6q : a1o .add 0 (.lit (.int k a)) (.lit (.int k b)) = some (.lit (.int k (k.wrap (a + b)))) := a4k f1f rfl
@[go_sem] theorem h5n : a1o .sub 0 (.lit (.int k a)) (.lit (.int k b)) = some (.lit (.int k (k.wrap (a - b)))) := a4k e9u rfl
@[go_sem] theorem h6x : a1o .mul 0 (.lit (.int k a)) (.lit (.int k b)) = some (.lit (.int k (k.wrap (a * b)))) := a4k f0d rfl
@[go_sem] theorem h51 : a1o .eql 0 (.lit (.int k a)) (.lit (.int k b)) = some (.lit (.bool (decide (a = b)))) := by
  rw [a4k f1p rfl]; simp only [Option.some.injEq, AV.lit.injEq, Value.bool.injEq]; by_cases h : a = b <;> simp [h]
@[go_sem] theorem h65 : a1o .neq 0 (.lit (.int k a)) (.lit (.int k b)) = some (.lit (.bool (!decide (a = b)))) := by
  rw [a4k e9s rfl]; simp only [Option.some.injEq, AV.lit.injEq, Value.bool.injEq]; by_cases h : a = b <;> simp [h]
@[go_sem] theorem h5g : a1o .lss 0 (.lit (.int k a)) (.lit (.int k b)) = some (.lit (.bool (decide (a < b)))) := a4k e94 rfl
@[go_sem] theorem h5d : a1o .leq 0 (.lit (.int k a)) (.lit (.int k b)) = some (.lit (.bool (decide (a ≤ b)))) := a4k f1l rfl
@[go_sem] theorem h56 : a1o .gtr 0 (.lit (.int k a)) (.lit (.int k b)) = some (.lit (.bool (decide (b < a)))) := a4k f1k rfl
@[go_sem] theorem h5l : a1o .geq 0 (.lit (.int k a)) (.lit (.int k b)) = some (.lit (.bool (decide (b ≤ a)))) := a4k e9x rfl
end
section
variable {a b : Bool}
@[go_sem] theorem h2m : a1o .eql 1 (.lit (.bool a)) (.lit (.bool b)) = some (.lit (.bool (decide (a = b)))) := by cases a <;> cases b <;> rfl
@[go_sem] theorem g89 : a1o .neq 1 (.lit (.bool a)) (.lit (.bool b)) = some (.lit (.bool (!decide (a = b)))) := by cases a <;> cases b <;> rfl
@[go_sem] theorem g13 : a1o .eql 2 (.lit .nilIface) (.lit .nilIface) = some (.lit (.bool true)) := (rfl)
@[go_sem] theorem f9r : a1o .neq 2 (.lit .nilIface) (.lit .nilIface) = some (.lit (.bool false)) := (rfl)
@[go_sem] theorem f7d {T : TypeId} {v : Value} : a1o .eql 2 (.lit (.iface T v)) (.lit .nilIface) = some (.lit (.bool false)) := (rfl)
@[go_sem] theorem g1s {T : TypeId} {v : Value} : a1o .neq 2 (.lit (.iface T v)) (.lit .nilIface) = some (.lit (.bool true)) := (rfl)
@[go_sem] theorem f8f {T : TypeId} {k : AV} : a1o .eql 2 (.ifc T k) (.lit .nilIface) = some (.lit (.bool false)) := (rfl)
@[go_sem] theorem g3e {T : TypeId} {k : AV} : a1o .neq 2 (.ifc T k) (.lit .nilIface) = some (.lit (.bool true)) := (rfl)
@[go_sem] theorem g1w : a1o .eql 3 (.lit (.pointer none)) (.lit (.pointer none)) = some (.lit (.bool true)) := (rfl)
@[go_sem] theorem g14 : a1o .neq 3 (.lit (.pointer none)) (.lit (.pointer none)) = some (.lit (.bool false)) := (rfl)
@[go_sem] theorem f7q {ks : List AV} {o : Nat} : a1o .eql 3 (.ip ks o) (.lit (.pointer none)) = some (.lit (.bool false)) := (rfl)
@[go_sem] theorem g3n {ks : List AV} {o : Nat} : a1o .neq 3 (.ip ks o) (.lit (.pointer none)) = some (.lit (.bool true)) := (rfl)
end
theorem h3h {p : Prop} [Decidable p] (h : p) : decide p = true := decide_eq_true h
theorem h1k {p : Prop} [Decidable p] (h : ¬ p) : decide p = false := decide_eq_false h
theorem c4d {n : Int} (h : -9223372036854775808 ≤ n ∧ n ≤ 9223372036854775807) : IntKind.i64.wrap n = n := by rw [IntKind.wrap_i64]; omega
section
variable {α : Type} {f : α → AV}
theorem f0g [Inhabited α] {xs : List α} {i : Nat} (h : i < xs.length) : (xs.map f)[i]? = some (f xs[i]!) := by
  simp [h]
theorem c9j {β : Type} {l : List β} {o : Nat} {v : β} (h : o < l.length) : a0p l o [v] = l.set o v := by
  simp only [a0p, List.length_cons, List.length_nil]
  rw [List.set_eq_take_append_cons_drop, if_pos h]
  simp
theorem e2c {xs : List α} {o : Nat} {v : AV} (h : o < xs.length) : a0p (xs.map f) o [v] = (xs.map f).set o v := c9j (by simpa using h)
theorem d2u {xs : List α} {o i : Nat} {v w : AV} (h : o < xs.length) : a0p ((xs.map f).set i w) o [v] = ((xs.map f).set i w).set o v := c9j (by simpa using h)
@[go_sem] theorem e84 {xs : List α} : List.take xs.length (xs.map f) = xs.map f := List.take_of_length_le (by simp)
end
@[go_sem] theorem f4k {α : Type} {l : List α} {o : Nat} : a0p l o [] = l := by simp [a0p]
@[go_sem] theorem g7g {α : Type} {a x : α} {l xs : List α} : a0p (a :: l) 0 (x :: xs) = x :: a0p l 0 xs := by simp [a0p]
@[go_sem] theorem g7k {α : Type} {a : α} {l xs : List α} {o : Nat} : a0p (a :: l) (o + 1) xs = a :: a0p l o xs := by
  simp [a0p, show o + 1 + xs.length = (o + xs.length) + 1 by omega]
@[go_sem] theorem c1m {α : Type} {f : α → AV} {xs : List α} (h : ∀ x, a0l (f x) = true) : a0j (xs.map f) = true := by
  induction xs with
  | nil => rfl
  | cons x xs ih => simp [a0j, h, ih]
@[go_sem] theorem b4r {α : Type} {f : α → AV} {xs : List α} (h : ∀ x, a0w (f x) = true) : a1e (xs.map f) = true := by
  induction xs with
  | nil => rfl
  | cons x xs ih => simp [a1e, h, ih]
@[go_sem] theorem g6w {α : Type} {f : α → AV} {xs : List α} : a1n (xs.map f) = xs.map fun x => frz (f x) := by
  induction xs with
  | nil => rfl
  | cons x xs ih => simp [a1n, ih]
@[go_sem] theorem h6v {n : Nat} {z : AV} : c6h n [z] = List.replicate n z := by
  simp only [c6h]; induction n with
  | zero => rfl
  | succ n ih => simp [List.replicate_succ, ih]
def iG (v : Option AV) : AV := match v with
  | some v => v
  | none => .lit undef
@[go_sem] theorem g92 {v : AV} : iG (some v) = v := (rfl)
@[go_sem] theorem g85 : iG none = .lit undef := (rfl)
@[go_sem] theorem h03 {pre : List AV} {t : Nat} : (St.init pre).s t = iG pre[t]? := by
  simp only [St.init, iG]; cases pre[t]? <;> rfl
@[go_sem] theorem g7t {pre : List AV} {t : Nat} : (St.init pre).ep t = 0 := (rfl)
attribute [go_sem] List.getElem?_cons_zero List.getElem?_cons_succ List.getElem?_nil List.map_nil List.map_cons List.length_cons List.length_nil Nat.zero_add Nat.add_zero Nat.mul_one Nat.mul_zero Nat.zero_mul List.set_cons_zero List.set_cons_succ List.append_nil List.nil_append List.cons_append List.drop_zero List.take_zero List.drop_succ_cons List.take_succ_cons List.take_nil List.drop_nil Int.toNat_natCast List.length_map List.isEmpty_nil List.isEmpty_cons beq_self_eq_true Option.map_some Option.map_none decide_true decide_false and_true true_and Bool.true_or Bool.or_true Bool.false_or Bool.or_false List.take_length List.length_replicate List.map_map Function.comp_def Option.some.injEq
end Go.Ideal
end
section
set_option linter.unusedVariables false
set_option linter.unusedSimpArgs false
namespace Go.Ideal
section
variable {P : Program} {G : Nat → Option Value} {N : Nat}
theorem a0u {Q : Exit → St → Prop} {st : St} {a : IC} (ι : Type) (I : ι → St → Prop) (μ : ι → Nat) (i0 : ι) (h0 : I i0 st) (h : ∀ i st K, I i st → (∀ i' st', I i' st' → μ i' < μ i → K st') → AW P G N a (c50 K Q) st) : AW P G N (.loop a) Q st :=
  ⟨ι, I, μ, i0, h0, fun i st hi => h i st _ hi fun i' st' h1 h2 => ⟨i', h1, h2⟩⟩
section
variable {kl : Nat → List Nat → Bool} {v : Value} {n sz o e t lo f T : Nat} {q : List Nat} {ks a b : List AV} {k : AV}
@[go_sem] theorem f4l : a02 kl .dead = .dead := by simp only [a02]
@[go_sem] theorem f7o : a02 kl (.lit v) = .lit v := by simp only [a02]
@[go_sem] theorem g6d : a02 kl (.sl n ks) = .sl n ks := by simp only [a02]
@[go_sem] theorem g4h : a02 kl (.ip ks o) = .ip ks o := by simp only [a02]
@[go_sem] theorem f7x : a02 kl (.own sz n ks) = .own sz n ks := by simp only [a02]
@[go_sem] theorem g07 : a02 kl (.var ks) = .var ks := by simp only [a02]
@[go_sem] theorem g00 : a02 kl (.agg ks) = .agg ks := by simp only [a02]
@[go_sem] theorem g2m : a02 kl (.tup ks) = .tup ks := by simp only [a02]
@[go_sem] theorem g0k : a02 kl (.ifc T k) = .ifc T k := by simp only [a02]
@[go_sem] theorem g41 : a02 kl (.fn f a b) = .fn f (c6d kl a) (c6d kl b) := by simp only [a02]
@[go_sem] theorem f9c : a02 kl (.ref t q o e) = if kl t q then .dead else .ref t q o e := by simp only [a02]
@[go_sem] theorem g1h : a02 kl (.bor t q lo n e) = if kl t q then .dead else .bor t q lo n e := by simp only [a02]
@[go_sem] theorem g23 : a0l (.lit v) = true := by simp only [a0l]
@[go_sem] theorem g4j : a0l (.sl n ks) = true := by simp only [a0l]
@[go_sem] theorem g63 : a0l (.ip ks o) = true := by simp only [a0l]
@[go_sem] theorem g72 : a0l (.fn f a b) = true := by simp only [a0l]
@[go_sem] theorem g11 : a0l (.ref t q o e) = true := by simp only [a0l]
@[go_sem] theorem f8v : a0l (.bor t q lo n e) = true := by simp only [a0l]
@[go_sem] theorem h3y : frz (.lit v) = .lit v := by simp only [frz]
@[go_sem] theorem h53 : frz (.sl n ks) = .sl n ks := by simp only [frz]
@[go_sem] theorem h62 : frz (.ip ks o) = .ip ks o := by simp only [frz]
@[go_sem] theorem h5w : frz (.fn f a b) = .fn f a b := by simp only [frz]
@[go_sem] theorem f9h : a0w (.lit v) = true := by simp only [a0w]
@[go_sem] theorem f4o : a0w .dead = true := by simp only [a0w]
@[go_sem] theorem f8r : a0l (.own sz n ks) = false := by simp only [a0l]
@[go_sem] theorem f8d : a0l (.var ks) = false := by simp only [a0l]
@[go_sem] theorem f7z : a0l (.agg ks) = a0j ks := by simp only [a0l]
@[go_sem] theorem f8w : a0l (.tup ks) = a0j ks := by simp only [a0l]
@[go_sem] theorem g03 : a0l (.ifc T k) = a0l k := by simp only [a0l]
@[go_sem] theorem g8x : frz (.own sz n ks) = .sl n (a1n ks) := by simp only [frz]
@[go_sem] theorem h2k : frz (.var ks) = .ip (a1n ks) 0 := by simp only [frz]
@[go_sem] theorem g94 : frz (.agg ks) = .agg (a1n ks) := by simp only [frz]
@[go_sem] theorem h38 : frz (.tup ks) = .tup (a1n ks) := by simp only [frz]
@[go_sem] theorem g9i : frz (.ifc T k) = .ifc T (frz k) := by simp only [frz]
@[go_sem] theorem g56 : a0w (.sl n ks) = ks.isEmpty := by simp only [a0w]
@[go_sem] theorem g4a : a0w (.ip ks o) = false := by simp only [a0w]
@[go_sem] theorem g1m : a0w (.own sz n ks) = a1e ks := by simp only [a0w]
@[go_sem] theorem g0u : a0w (.var ks) = a1e ks := by simp only [a0w]
@[go_sem] theorem g2f : a0w (.agg ks) = a1e ks := by simp only [a0w]
@[go_sem] theorem g1b : a0w (.tup ks) = a1e ks := by simp only [a0w]
@[go_sem] theorem g1v : a0w (.ifc T k) = a0w k := by simp only [a0w]
@[go_sem] theorem g69 : a0w (.fn f a b) = (a1e a && a1e b) := by simp only [a0w]
@[go_sem] theorem g1g : a0k (.ref t q o e) = false := by simp only [a0k]
@[go_sem] theorem g0l : a0k (.bor t q lo n e) = false := by simp only [a0k]
@[go_sem] theorem g6f : a0k (.fn f a b) = (a4n.noRefL a && a4n.noRefL b) := by simp only [a0k]
@[go_sem] theorem g02 : a0k (.lit v) = true := by simp only [a0k]
@[go_sem] theorem g7b : a0k (.sl n ks) = true := by simp only [a0k]
@[go_sem] theorem g6u : a0k (.ip ks o) = true := by simp only [a0k]
@[go_sem] theorem f91 : a0k (.own sz n ks) = true := by simp only [a0k]
@[go_sem] theorem g3k : a0k (.var ks) = true := by simp only [a0k]
@[go_sem] theorem f90 : a0k (.agg ks) = true := by simp only [a0k]
@[go_sem] theorem g1z : a0k (.tup ks) = true := by simp only [a0k]
@[go_sem] theorem g2v : a0k (.ifc T k) = true := by simp only [a0k]
end
attribute [go_sem] h3h h1k f7h c4d f0g e2c d2u List.set_set List.map_append List.length_append List.length_set
end
end Go.Ideal
end
section
set_option linter.unusedVariables false
set_option linter.unusedSimpArgs false
namespace Go.Ideal
theorem a4h {N : Nat} {α β : Type} : ∀ (x : Ev α) (f : α → Ev β) (st : St) (sw : List Nat), (x >>= f).runF N st sw = (x.runF N st sw).bind fun r => ((f r.a).runF N r.st r.sw).map fun r2 => { r2 with rd := r.rd ++ r2.rd, wr := r.wr ++ r2.wr }
  | .ret a, f, st, sw => by
    show (f a).runF N st sw = _
    simp [Ev.runF]
  | .fail, f, st, sw => rfl
  | .get t k, f, st, sw => by
    show (Ev.get t fun v e => k v e >>= f).runF N st sw = _
    simp only [Ev.runF]
    split
    · rw [a4h]
      cases (k (st.s t) (st.ep t)).runF N st sw with
      | none => rfl
      | some r => simp [Function.comp_def]
    · rfl
  | .getv t k, f, st, sw => by
    show (Ev.getv t fun v => k v >>= f).runF N st sw = _
    simp only [Ev.runF]
    split
    · rw [a4h]
      cases (k (st.s t)).runF N st sw with
      | none => rfl
      | some r => simp [Function.comp_def]
    · split
      · rw [a4h]
      · rfl
  | .put t v k, f, st, sw => by
    show (Ev.put t v (k >>= f)).runF N st sw = _
    simp only [Ev.runF]
    split
    · rw [a4h]
      cases k.runF N (st.put t v) sw with
      | none => rfl
      | some r => simp [Function.comp_def]
    · rw [a4h]
  | .upd t v k, f, st, sw => by
    show (Ev.upd t v (k >>= f)).runF N st sw = _
    simp only [Ev.runF]
    split
    · rw [a4h]
      cases k.runF N (st.set t v) sw with
      | none => rfl
      | some r => simp [Function.comp_def]
    · rw [a4h]
  | .kill t q o m k, f, st, sw => by
    show (Ev.kill t q o m (k >>= f)).runF N st sw = _
    simp only [Ev.runF]
    rw [a4h]
    cases k.runF N (st.kill t q o m) sw with
    | none => rfl
    | some r => simp [Function.comp_def]
def a2w : AV → Option Nat
  | .ref t _ _ _ => some t
  | .bor t _ _ _ _ => some t
  | _ => none
def FpP (D : Nat → Prop) (N : Nat) {α : Type} (e : Ev α) (st : St) (sw : List Nat) (Post : α → St → List Nat → Prop) : Prop :=
  ∀ a st', e.run st = some (a, st') → ∃ rd wr sw', e.runF N st sw = some ⟨a, st', rd, wr, sw'⟩ ∧ (∀ t ∈ rd, D t) ∧ (∀ t ∈ wr, D t) ∧ Post a st' sw'
section
variable {D : Nat → Prop} {N : Nat} {α β : Type} {st : St} {sw : List Nat} {Post : β → St → List Nat → Prop} {f : α → Ev β}
theorem FpP.bindM {x : Ev α} (h : FpP D N x st sw (fun a st' sw' => FpP D N (f a) st' sw' Post)) : FpP D N (x >>= f) st sw Post := by
  intro a st' hr
  rw [Ev.run_bind] at hr
  cases hx : x.run st with
  | none => rw [hx] at hr; cases hr
  | some r =>
    obtain ⟨b, st1⟩ := r
    rw [hx] at hr
    obtain ⟨rd, wr, sw1, h1, h2, h3, h4⟩ := h b st1 hx
    obtain ⟨rd2, wr2, sw2, g1, g2, g3, g4⟩ := h4 a st' hr
    refine ⟨rd ++ rd2, wr ++ wr2, sw2, ?_, ?_, ?_, g4⟩
    · rw [a4h, h1]; simp only [Option.bind, g1, Option.map]
    · intro t ht; rcases List.mem_append.1 ht with ht | ht; exact h2 t ht; exact g2 t ht
    · intro t ht; rcases List.mem_append.1 ht with ht | ht; exact h3 t ht; exact g3 t ht
theorem FpP.mono {Q : α → St → List Nat → Prop} {P : α → St → List Nat → Prop} {x : Ev α} (h : FpP D N x st sw P) (hpq : ∀ a st' sw', P a st' sw' → Q a st' sw') : FpP D N x st sw Q := by
  intro a st' hr
  obtain ⟨rd, wr, sw1, h1, h2, h3, h4⟩ := h a st' hr
  exact ⟨rd, wr, sw1, h1, h2, h3, hpq _ _ _ h4⟩
theorem FpP.ret {a : α} {P : α → St → List Nat → Prop} (h : P a st sw) : FpP D N (Ev.ret a) st sw P := by
  intro b st' hr
  simp only [Ev.run, Option.some.injEq, Prod.mk.injEq] at hr
  obtain ⟨rfl, rfl⟩ := hr
  exact ⟨[], [], sw, rfl, by simp, by simp, h⟩
theorem FpP.fail {P : α → St → List Nat → Prop} : FpP D N (Ev.fail : Ev α) st sw P := by
  intro b st' hr; cases hr
theorem FpP.get {t : Nat} {P : (AV × Nat) → St → List Nat → Prop} (hD : D t) (hN : t < N) (h : P (st.s t, st.ep t) st sw) : FpP D N (c24 t) st sw P := by
  intro b st' hr
  rw [a1i] at hr
  simp only [Option.some.injEq, Prod.mk.injEq] at hr
  obtain ⟨rfl, rfl⟩ := hr
  exact ⟨[t], [], sw, by simp [c24, Ev.runF, hN], by simpa using hD, by simp, h⟩
theorem FpP.getv {t : Nat} {P : AV → St → List Nat → Prop} (hN : ¬ t < N) (hs : t ∈ sw) (h : P (st.s t) st sw) : FpP D N (d9g t) st sw P := by
  intro b st' hr
  rw [a49] at hr
  simp only [Option.some.injEq, Prod.mk.injEq] at hr
  obtain ⟨rfl, rfl⟩ := hr
  exact ⟨[], [], sw, by simp [d9g, Ev.runF, hN, hs], by simp, by simp, h⟩
theorem FpP.put {t : Nat} {v : AV} {P : Unit → St → List Nat → Prop} (hD : D t) (hN : t < N) (h : P () (st.put t v) sw) : FpP D N (a3h t v) st sw P := by
  intro b st' hr
  rw [a7p] at hr
  simp only [Option.some.injEq, Prod.mk.injEq, true_and] at hr
  subst hr
  exact ⟨[], [t], sw, by simp [a3h, Ev.runF, hN], by simp, by simpa using hD, h⟩
theorem FpP.putN {t : Nat} {v : AV} {P : Unit → St → List Nat → Prop} (hN : ¬ t < N) (h : P () (st.put t v) (t :: sw)) : FpP D N (a3h t v) st sw P := by
  intro b st' hr
  rw [a7p] at hr
  simp only [Option.some.injEq, Prod.mk.injEq, true_and] at hr
  subst hr
  exact ⟨[], [], t :: sw, by simp [a3h, Ev.runF, hN], by simp, by simp, h⟩
theorem FpP.upd {t : Nat} {v : AV} {P : Unit → St → List Nat → Prop} (hD : D t) (hN : t < N) (h : P () (st.set t v) sw) : FpP D N (c5o t v) st sw P := by
  intro b st' hr
  rw [d0l] at hr
  simp only [Option.some.injEq, Prod.mk.injEq, true_and] at hr
  subst hr
  exact ⟨[], [t], sw, by simp [c5o, Ev.runF, hN], by simp, by simpa using hD, h⟩
theorem FpP.kill {t o m : Nat} {q : List Nat} {P : Unit → St → List Nat → Prop} (hD : ∀ u, u < N → D u) (h : P () (st.kill t q o m) sw) : FpP D N (e4j t q o m) st sw P := by
  intro a st' hr
  rw [d7n] at hr
  simp only [Option.some.injEq, Prod.mk.injEq, true_and] at hr
  subst hr
  exact ⟨List.range N ++ [], List.range N ++ [], sw, rfl, fun u hu => hD u (by simpa using hu), fun u hu => hD u (by simpa using hu), h⟩
theorem FpP.guard {b : Bool} {P : Unit → St → List Nat → Prop} (h : b = true → P () st sw) : FpP D N (a0i b) st sw P := by
  cases b
  · exact FpP.fail
  · exact FpP.ret (h rfl)
theorem FpP.opt {o : Option α} {P : α → St → List Nat → Prop} (h : ∀ a, o = some a → P a st sw) : FpP D N (a4o o) st sw P := by
  cases o
  · exact FpP.fail
  · exact FpP.ret (h _ rfl)
structure XO (D : Nat → Prop) (N : Nat) (st : St) (x : X) : Prop where
  t : ∀ t, x = .t t → D t ∧ t < N
  b : ∀ u, a2w (rdv st x) = some u → D u ∧ u < N
theorem FpP.read {x : X} {P : (AV × Nat) → St → List Nat → Prop} (hx : XO D N st x) (h : P (rdv st x, rde st x) st sw) : FpP D N (a2n x) st sw P := by
  cases x with
  | t t => exact FpP.get (hx.t t rfl).1 (hx.t t rfl).2 h
  | _ => exact FpP.ret h
theorem FpP.tmp {x : X} {P : Nat → St → List Nat → Prop} (h : ∀ t, x = .t t → P t st sw) : FpP D N (c7z x) st sw P := by
  cases x with
  | t t => exact FpP.ret (h t rfl)
  | _ => exact FpP.fail
theorem FpP.setD {d : Option Nat} {v : AV} {P : Unit → St → List Nat → Prop} (hd : ∀ t, d = some t → D t ∧ t < N) (h : ∀ t, d = some t → P () (st.put t v) sw) : FpP D N (setD d v) st sw P := by
  cases d with
  | none => exact FpP.fail
  | some t => exact FpP.put (hd t rfl).1 (hd t rfl).2 (h t rfl)
theorem FpP.thru {d : Option Nat} {v : AV} {M : Nat} {P : Unit → St → List Nat → Prop} (hM : N ≤ M) (hd : ∀ t, d = some t → D t ∧ t < N) (h : ∀ st' sw', P () st' sw') : FpP D N (a4e M d v) st sw P :=
  FpP.bindM (FpP.putN (Nat.not_lt.2 hM) (FpP.bindM (FpP.putN (Nat.not_lt.2 hM) (FpP.setD hd fun _ _ => h _ _))))
end
abbrev tt {α : Type} : α → St → List Nat → Prop := fun _ _ _ => True
section
variable {D : Nat → Prop} {N : Nat} {st : St} {sw : List Nat} {d : Option Nat} {x y : X} {G : Nat → Option Value}
abbrev DD (D : Nat → Prop) (N : Nat) (d : Option Nat) : Prop := ∀ t, d = some t → D t ∧ t < N
theorem f8m (hx : XO D N st x) (hd : DD D N d) : FpP D N (mvE x d) st sw tt := by
  refine FpP.bindM (FpP.read hx ?_)
  cases hv : rdv st x <;> simp only
  case own => cases x <;> exact FpP.setD hd fun _ _ => trivial
  case var => exact FpP.bindM (FpP.tmp fun t ht => FpP.setD hd fun _ _ => trivial)
  case dead => exact FpP.fail
  all_goals (split <;> first | exact FpP.setD hd fun _ _ => trivial | exact FpP.bindM (FpP.tmp fun t ht => FpP.bindM (FpP.upd (hx.t t ht).1 (hx.t t ht).2 (FpP.setD hd fun _ _ => trivial))))
theorem e81 (hx : XO D N st x) (hd : DD D N d) : FpP D N (f4a N x d) st sw tt := by
  have tail : ∀ v : AV, FpP D N (b3d N d x v) st sw tt := by
    intro v
    unfold b3d
    cases x with
    | t t => simp only; split; exact FpP.setD hd fun _ _ => trivial; exact FpP.bindM (FpP.put (hx.t t rfl).1 (hx.t t rfl).2 (FpP.thru (Nat.le_refl _) hd fun _ _ => trivial))
    | _ => simp only; split; exact FpP.setD hd fun _ _ => trivial; exact FpP.thru (Nat.le_refl _) hd fun _ _ => trivial
  refine FpP.bindM (FpP.read hx ?_)
  cases hv : rdv st x <;> simp only
  case dead => exact FpP.fail
  case bor t q lo n e =>
    have hb := hx.b t (by rw [hv]; rfl)
    refine FpP.bindM (FpP.get hb.1 hb.2 (FpP.bindM (FpP.guard fun _ => FpP.bindM (FpP.opt fun k hk => ?_))))
    cases k <;> simp only <;> try exact FpP.fail
    refine FpP.bindM (FpP.guard fun _ => ?_)
    split
    · exact FpP.bindM (FpP.put hb.1 hb.2 (FpP.thru (Nat.le_refl _) hd fun _ _ => trivial))
    · exact FpP.bindM (FpP.upd hb.1 hb.2 (FpP.setD hd fun _ _ => trivial))
  all_goals exact tail _
theorem b9q {P : Value → St → List Nat → Prop} (hx : XO D N st x) (h : ∀ v, P v st sw) : FpP D N (d5e x) st sw P := by
  refine FpP.bindM (FpP.read hx ?_)
  cases hv : rdv st x <;> simp only <;> first | exact FpP.ret (h _) | exact FpP.fail
theorem e1j {P : Int → St → List Nat → Prop} (hx : XO D N st x) (h : ∀ v, P v st sw) : FpP D N (e14 x) st sw P := by
  refine FpP.bindM (b9q hx fun v => ?_)
  cases v <;> simp only <;> first | exact FpP.ret (h _) | exact FpP.fail
theorem a9f {x : Option X} {z : Int} {P : Int → St → List Nat → Prop} (hx : ∀ y, x = some y → XO D N st y) (h : ∀ v, P v st sw) : FpP D N (a3i x z) st sw P := by
  cases x with
  | none => exact FpP.ret (h _)
  | some x => exact e1j (hx x rfl) h
theorem e5z {P : (Nat × List Nat × Nat × Nat) → St → List Nat → Prop} (hx : XO D N st x) (h : ∀ t q lo n, D t → t < N → P (t, q, lo, n) st sw) : FpP D N (a9c x) st sw P := by
  refine FpP.bindM (FpP.read hx ?_)
  cases hv : rdv st x <;> simp only <;> try exact FpP.fail
  · exact FpP.bindM (FpP.tmp fun t ht => FpP.ret (h _ _ _ _ (hx.t t ht).1 (hx.t t ht).2))
  · rename_i t q lo n e
    have hb := hx.b t (by rw [hv]; rfl)
    exact FpP.bindM (FpP.get hb.1 hb.2 (FpP.bindM (FpP.guard fun _ => FpP.ret (h _ _ _ _ hb.1 hb.2))))
theorem g1l {P : (Nat × List Nat × Nat) → St → List Nat → Prop} (hx : XO D N st x) (h : ∀ t q o, D t → t < N → P (t, q, o) st sw) : FpP D N (d8l x) st sw P := by
  refine FpP.bindM (FpP.read hx ?_)
  cases hv : rdv st x <;> simp only <;> try exact FpP.fail
  · exact FpP.bindM (FpP.tmp fun t ht => FpP.ret (h _ _ _ (hx.t t ht).1 (hx.t t ht).2))
  · rename_i t q lo e
    have hb := hx.b t (by rw [hv]; rfl)
    exact FpP.bindM (FpP.get hb.1 hb.2 (FpP.bindM (FpP.guard fun _ => FpP.ret (h _ _ _ hb.1 hb.2))))
theorem d14 {P : (Nat × List Nat × Nat × AV × Nat × List AV) → St → List Nat → Prop} (hx : XO D N st x) (h : ∀ t q o v e ks, D t → t < N → P (t, q, o, v, e, ks) st sw) : FpP D N (e6a x) st sw P :=
  FpP.bindM (g1l hx fun t q o hD hN => FpP.bindM (FpP.get hD hN (FpP.bindM (FpP.opt fun ks _ => FpP.bindM (FpP.guard fun _ => FpP.ret (h _ _ _ _ _ _ hD hN))))))
theorem e7a {t : Nat} {q : List Nat} {P : AV → St → List Nat → Prop} (hD : D t) (hN : t < N) (h : ∀ k, P k st sw) : FpP D N (e3t t q) st sw P :=
  FpP.bindM (FpP.get hD hN (FpP.opt fun _ _ => h _))
theorem e91 {s : Option Nat} (hx : XO D N st x) (hd : DD D N d) : FpP D N (d6n d s x) st sw tt := by
  refine FpP.bindM (d14 hx fun t q o v e ks hD hN => ?_)
  cases s with
  | none =>
    refine FpP.bindM (FpP.opt fun k _ => ?_)
    cases k <;> simp only [c3x] <;> first | exact FpP.setD hd fun _ _ => trivial | exact FpP.bindM (FpP.guard fun _ => FpP.setD hd fun _ _ => trivial)
  | some s =>
    refine FpP.bindM (FpP.guard fun _ => ?_)
    split
    · exact FpP.setD hd fun _ _ => trivial
    · exact FpP.bindM (FpP.upd hD hN (FpP.setD hd fun _ _ => trivial))
end
end Go.Ideal
end
section
set_option linter.unusedVariables false
set_option linter.unusedSimpArgs false
namespace Go.Ideal
def BLe (N : Nat) (st st' : St) : Prop := ∀ t, t < N → a2w (st'.s t) = none ∨ a2w (st'.s t) = a2w (st.s t)
theorem BLe.refl {N : Nat} (st : St) : BLe N st st := fun t _ => .inr rfl
theorem BLe.trans {N : Nat} {a b c : St} (h : BLe N a b) (h2 : BLe N b c) : BLe N a c := fun t ht => by
  rcases h2 t ht with h3 | h3
  · exact .inl h3
  · rcases h t ht with h4 | h4
    · exact .inl (h3.trans h4)
    · exact .inr (h3.trans h4)
theorem BLe.put {N : Nat} {st : St} {t : Nat} {v : AV} (h : a2w v = none) : BLe N st (st.put t v) := fun u _ => by
  simp only [St.put_s]; split
  · exact .inl h
  · exact .inr rfl
theorem BLe.putN {N : Nat} {st : St} {t : Nat} {v : AV} (h : ¬ t < N) : BLe N st (st.put t v) := fun u hu => by
  simp only [St.put_s]; rw [if_neg (by omega)]; exact .inr rfl
theorem BLe.set {N : Nat} {st : St} {t : Nat} {v : AV} (h : a2w v = none) : BLe N st (st.set t v) := fun u _ => by
  simp only [St.set_s]; split
  · exact .inl h
  · exact .inr rfl
theorem XO.le {D : Nat → Prop} {N : Nat} {st st' : St} {x : X} (h : XO D N st x) (hl : BLe N st st') : XO D N st' x where
  t := h.t
  b u hu := by
    cases x with
    | t t =>
      have ht := h.t t rfl
      simp only [rdv] at hu
      rcases hl t ht.2 with h1 | h1
      · rw [h1] at hu; cases hu
      · exact h.b u (by simp only [rdv]; rw [← h1]; exact hu)
    | _ => cases hu
theorem a72 {v k : AV} {q : List Nat} {k' : AV} (hk : a0c v q = some k) (h : a2w k' = none) : a2w (a0s v q k') = none := by
  cases q with
  | nil => exact h
  | cons i q =>
    cases v <;> simp only [a0c, a0e, reduceCtorEq] at hk
    · simp only [a0s, a0e]; split <;> rfl
    · simp only [a0s, a0e]; split <;> rfl
section
variable {D : Nat → Prop} {N : Nat} {st : St} {sw : List Nat} {d : Option Nat} {x y : X} {G : Nat → Option Value}
theorem e0u {P : Unit → St → List Nat → Prop} (hx : XO D N st x) (h : ∀ st' sw', BLe N st st' → (∀ t ∈ sw, t ∈ sw') → N ∈ sw' → (∀ t, N < t → st'.s t = st.s t) → P () st' sw') : FpP D N (a4n x N) st sw P := by
  have hN : ¬ N < N := Nat.lt_irrefl _
  have one : ∀ {v : AV}, a2w (AV.dead) = none → FpP D N (a3h N v) st sw P := fun _ => FpP.putN hN (h _ _ (BLe.putN hN) (fun t ht => by simp [ht]) (by simp) (fun t ht => by simp [Nat.ne_of_gt ht]))
  have two : ∀ {v : AV} (t : Nat), x = .t t → FpP D N (do a3h t .dead; a3h N v) st sw P := fun t ht => FpP.bindM (FpP.put (hx.t t ht).1 (hx.t t ht).2 (FpP.putN hN (h _ _ ((BLe.put rfl).trans (BLe.putN hN)) (fun t ht => by simp [ht]) (by simp) (fun u hu => by
    have := (hx.t t ht).2
    simp [Nat.ne_of_gt hu, show u ≠ t by omega]))))
  refine FpP.bindM (FpP.read hx ?_)
  cases hv : rdv st x <;> simp only
  case dead => exact FpP.fail
  case tup => exact FpP.fail
  case ref => exact FpP.fail
  case bor t q lo n e =>
    have hb := hx.b t (by rw [hv]; rfl)
    refine FpP.bindM (FpP.get hb.1 hb.2 (FpP.bindM (FpP.guard fun _ => FpP.bindM (FpP.opt fun k hk => ?_))))
    cases k <;> simp only <;> try exact FpP.fail
    refine FpP.bindM (FpP.guard fun _ => FpP.bindM (FpP.upd hb.1 hb.2 (FpP.putN hN (h _ _ ((BLe.set (a72 hk rfl)).trans (BLe.putN hN)) (fun t ht => by simp [ht]) (by simp) (fun u hu => by
      have := hb.2
      simp [Nat.ne_of_gt hu, show u ≠ t by omega])))))
  case agg => exact FpP.bindM (FpP.tmp fun t ht => two t ht)
  case own =>
    cases x with
    | t t => exact two t rfl
    | _ => exact one rfl
  case var => exact FpP.bindM (FpP.tmp fun t ht => two t ht)
  case ifc => exact FpP.bindM (FpP.tmp fun t ht => two t ht)
  case fn => exact FpP.bindM (FpP.guard fun _ => one rfl)
  all_goals exact FpP.bindM (FpP.guard fun _ => one rfl)
theorem d4s {j : Nat} {P : List AV → St → List Nat → Prop} (hN : ¬ j < N) (hs : j ∈ sw) (h : ∀ ks, P ks st sw) : FpP D N (d9p j) st sw P := by
  refine FpP.bindM (FpP.getv hN hs ?_)
  cases st.s j <;> simp only <;> first | exact FpP.ret (h _) | exact FpP.fail
theorem g0f {T : TypeId} {sz : Nat} (hx : XO D N st x) (hd : DD D N d) : FpP D N (a1c G N d (.box T sz x)) st sw tt := by
  have hN : ¬ N < N := Nat.lt_irrefl _
  exact FpP.bindM (e0u hx fun st' sw' _ _ hs _ => FpP.bindM (d4s hN hs fun ks => FpP.bindM (FpP.guard fun _ => FpP.thru (Nat.le_refl _) hd fun _ _ => trivial)))
theorem d2x : ∀ (l : List (Nat × Nat × X)) {st : St} {sw : List Nat} {P : Unit → St → List Nat → Prop}, (∀ p ∈ l, XO D N st p.2.2) → (N + 1) ∈ sw → (∀ st' sw', (N + 1) ∈ sw' → P () st' sw') → FpP D N (c05 N l) st sw P
  | [], st, sw, P, _, hs, h => FpP.ret (h _ _ hs)
  | (off, sz, x) :: rest, st, sw, P, hx, hs, h => by
    have hN : ¬ N < N := Nat.lt_irrefl _
    have hN1 : ¬ N + 1 < N := by omega
    refine FpP.bindM (e0u (hx (off, sz, x) (by simp)) fun st1 sw1 hb hsw hNs _ => FpP.bindM (d4s hN hNs fun ks => FpP.bindM (d4s hN1 (hsw _ hs) fun zs => FpP.bindM (FpP.guard fun _ => FpP.bindM (FpP.putN hN (FpP.bindM (FpP.putN hN1 ?_)))))))
    exact d2x rest (fun p hp => (hx p (by simp [hp])).le (hb.trans ((BLe.put rfl).trans (BLe.putN hN1)))) (by simp) h
theorem e7e {T : TypeId} {zs : List AV} {parts : List (Nat × Nat × Nat × X)} (hx : ∀ p ∈ parts, XO D N st p.2.2.2) (hd : DD D N d) : FpP D N (a1c G N d (.build T zs parts)) st sw tt := by
  have hN1 : ¬ N + 1 < N := by omega
  refine FpP.bindM (FpP.putN hN1 (FpP.bindM (d2x _ (fun p hp => ?_) (by simp) fun st' sw' hs => FpP.bindM (d4s hN1 hs fun ks => FpP.bindM (FpP.putN hN1 (FpP.setD hd fun _ _ => trivial))))))
  obtain ⟨r, hr, rfl⟩ := List.mem_map.1 hp
  exact (hx r hr).le (BLe.putN hN1)
theorem e46 {T e : TypeId} {sz len : Nat} {zs : List AV} {parts : List (Nat × X)} (hx : ∀ p ∈ parts, XO D N st p.2) (hd : DD D N d) : FpP D N (a1c G N d (.bslice T e sz len zs parts)) st sw tt := by
  have hN1 : ¬ N + 1 < N := by omega
  refine FpP.bindM (FpP.putN hN1 (FpP.bindM (d2x _ (fun p hp => ?_) (by simp) fun st' sw' hs => FpP.bindM (d4s hN1 hs fun ks => FpP.thru (by omega) hd fun _ _ => trivial))))
  obtain ⟨r, hr, rfl⟩ := List.mem_map.1 hp
  exact (hx r hr).le (BLe.putN hN1)
theorem e8o {T : TypeId} {s : Nat} (hx : XO D N st x) (hy : XO D N st y) (hd : d = none) (hk : ∀ r, giv st N y (rdv st y) = some r → a0j r.2 = true ∨ ∀ t, t < N → D t) : FpP D N (a1c G N d (.store T s x y)) st sw tt := by
  have hN : ¬ N < N := Nat.lt_irrefl _
  refine FpP.bindM (FpP.guard fun _ => ?_)
  have hg : FpP D N (a4n y N) st sw (fun _ st' sw' => (BLe N st st' ∧ N ∈ sw') ∧ ∃ r, giv st N y (rdv st y) = some r ∧ st'.s N = .agg r.2) := by
    intro a st' hr
    obtain ⟨rd, wr, sw', h1, h2, h3, h4⟩ := e0u (P := fun _ st' sw' => BLe N st st' ∧ N ∈ sw') (sw := sw) hy (fun st' sw' h1 _ h2 _ => ⟨h1, h2⟩) a st' hr
    refine ⟨rd, wr, sw', h1, h2, h3, h4, ?_⟩
    rw [c0w] at hr
    cases hgv : giv st N y (rdv st y) with
    | none => rw [hgv] at hr; cases hr
    | some r =>
      rw [hgv] at hr
      simp only [Option.map, Option.some.injEq, Prod.mk.injEq, true_and] at hr
      exact ⟨r, rfl, by rw [← hr]; simp⟩
  refine FpP.bindM (FpP.mono hg fun a st' sw' ⟨⟨hb, hs⟩, r, hr, hsN⟩ => ?_)
  have hno := hk r hr
  refine FpP.bindM (FpP.mono (d14 (P := fun p st2 sw2 => (D p.1 ∧ p.1 < N) ∧ st2 = st' ∧ sw2 = sw') (hx.le hb) fun t q o v e ks hD htN => ⟨⟨hD, htN⟩, rfl, rfl⟩) ?_)
  rintro ⟨t, q, o, v, e, ks⟩ st2 sw2 ⟨⟨hD, htN⟩, rfl, rfl⟩
  refine FpP.bindM (FpP.mono (P := fun ks2 st3 sw3 => ks2 = r.2 ∧ st3 = st2 ∧ sw3 = sw2) (FpP.bindM (FpP.getv hN hs (by rw [hsN]; exact FpP.ret ⟨rfl, rfl, rfl⟩))) ?_)
  rintro cs st3 sw3 ⟨rfl, rfl, rfl⟩
  refine FpP.bindM (FpP.guard fun _ => FpP.bindM (FpP.putN hN ?_))
  rcases hno with hno | hall
  · rw [if_pos hno]
    exact FpP.upd hD htN trivial
  · split
    · exact FpP.upd hD htN trivial
    · exact FpP.bindM (FpP.kill hall (FpP.upd hD htN trivial))
theorem e8n (hx : XO D N st x) (hd : DD D N d) : FpP D N (a1c G N d (.nilck x)) st sw tt := by
  refine FpP.bindM (FpP.read hx ?_)
  cases hv : rdv st x <;> simp only <;> first | exact FpP.setD hd fun _ _ => trivial | exact FpP.bindM (d14 hx fun _ _ _ _ _ _ _ _ => FpP.setD hd fun _ _ => trivial)
theorem e68 {T : TypeId} {off f : Nat} (hx : XO D N st x) (hd : DD D N d) : FpP D N (a1c G N d (.faddr T off x f)) st sw tt := by
  refine FpP.bindM (FpP.read hx ?_)
  cases hv : rdv st x <;> simp only <;> first | exact FpP.setD hd fun _ _ => trivial | exact FpP.bindM (d14 hx fun _ _ _ _ _ _ _ _ => FpP.setD hd fun _ _ => trivial)
theorem e5n {T : TypeId} {s : Option Nat} (hx : XO D N st x) (hd : DD D N d) : FpP D N (a1c G N d (.load T s x)) st sw tt := by
  refine FpP.bindM (FpP.read hx ?_)
  simp only
  split
  · exact FpP.bindM (FpP.opt fun _ _ => FpP.setD hd fun _ _ => trivial)
  · exact FpP.bindM (FpP.opt fun _ _ => FpP.bindM (FpP.guard fun _ => FpP.setD hd fun _ _ => trivial))
  · exact FpP.bindM (FpP.guard fun _ => FpP.setD hd fun _ _ => trivial)
  · exact e91 hx hd
theorem e6l {T : TypeId} {sz : Nat} {i : X} (hx : XO D N st x) (hi : XO D N st i) (hd : DD D N d) : FpP D N (a1c G N d (.iaddr T sz x i)) st sw tt := by
  refine FpP.bindM (e1j hi fun n => FpP.bindM (FpP.guard fun _ => FpP.bindM (FpP.read hx ?_)))
  have rest : FpP D N (do
      let (t, q, lo, m) ← a9c x
      a0i (decide (n < (m : Int)))
      let v ← c24 t
      let k ← a4o (a0c v.1 q)
      match k with
      | .own sz' n0 _ => do
        a0i (sz' == sz && decide (lo + m ≤ n0))
        setD d (.ref t q ((lo + n.toNat) * sz) v.2)
      | _ => .fail) st sw tt := by
    refine FpP.bindM (e5z hx fun t q lo m hD hN => FpP.bindM (FpP.guard fun _ => FpP.bindM (FpP.get hD hN (FpP.bindM (FpP.opt fun k _ => ?_)))))
    cases k <;> simp only <;> first | exact FpP.fail | exact FpP.bindM (FpP.guard fun _ => FpP.setD hd fun _ _ => trivial)
  cases hv : rdv st x <;> simp only <;> first | exact FpP.bindM (FpP.guard fun _ => FpP.setD hd fun _ _ => trivial) | exact rest
theorem e6o {T : TypeId} {b : Bool} (hx : XO D N st x) (hd : DD D N d) : FpP D N (a1c G N d (.len T b x)) st sw tt := by
  cases b with
  | true =>
    refine FpP.bindM (b9q hx fun v => ?_)
    cases v <;> simp only <;> first | exact FpP.fail | exact FpP.setD hd fun _ _ => trivial
  | false =>
    refine FpP.bindM (FpP.read hx ?_)
    have rest : FpP D N (do
      let (t, q, lo, n) ← a9c x
      let k ← e3t t q
      match k with
      | .own _ n0 _ => do
        a0i (decide (lo + n ≤ n0))
        setD d (.lit (.int .i64 n))
      | _ => .fail) st sw tt := by
      refine FpP.bindM (e5z hx fun t q lo m hD hN => FpP.bindM (e7a hD hN fun k => ?_))
      cases k <;> simp only <;> first | exact FpP.fail | exact FpP.bindM (FpP.guard fun _ => FpP.setD hd fun _ _ => trivial)
    cases hv : rdv st x <;> simp only <;> first | exact FpP.setD hd fun _ _ => trivial | exact rest
theorem g28 {b : BinOp} {T kd : Nat} {yT : TypeId} (hx : XO D N st x) (hy : XO D N st y) (hd : DD D N d) : FpP D N (a1c G N d (.bin b T kd x y yT)) st sw tt :=
  FpP.bindM (FpP.read hx (FpP.bindM (FpP.read hy (FpP.bindM (FpP.opt fun _ _ => FpP.setD hd fun _ _ => trivial)))))
theorem h2n {u : UnOp} {T : TypeId} (hx : XO D N st x) (hd : DD D N d) : FpP D N (a1c G N d (.un u T x)) st sw tt :=
  FpP.bindM (b9q hx fun _ => FpP.bindM (FpP.opt fun _ _ => FpP.setD hd fun _ _ => trivial))
theorem f1g {c : X} (hc : XO D N st c) (hx : XO D N st x) (hy : XO D N st y) (hd : DD D N d) : FpP D N (a1c G N d (.pick c x y)) st sw tt :=
  FpP.bindM (b9q hc fun _ => FpP.bindM (FpP.read hx (FpP.bindM (FpP.read hy (FpP.bindM (FpP.opt fun _ _ => FpP.setD hd fun _ _ => trivial))))))
theorem e75 {T : TypeId} {zs : List AV} (hd : DD D N d) : FpP D N (a1c G N d (.alloc T zs)) st sw tt := FpP.thru (Nat.le_refl _) hd fun _ _ => trivial
theorem e8k {s t : TypeId} {k : IntKind} (hx : XO D N st x) (hd : DD D N d) : FpP D N (a1c G N d (.conv s t (.int k) x)) st sw tt := by
  refine FpP.bindM (b9q hx fun v => ?_)
  cases v <;> simp only <;> first | exact FpP.fail | exact FpP.setD hd fun _ _ => trivial
theorem f98 {T : TypeId} (hx : XO D N st x) (hd : DD D N d) : FpP D N (a1c G N d (.mki T x)) st sw tt := by
  refine FpP.bindM (FpP.read hx ?_)
  cases hv : rdv st x <;> simp only <;> first | exact FpP.fail | exact FpP.setD hd fun _ _ => trivial | exact FpP.bindM (FpP.tmp fun t ht => FpP.bindM (FpP.upd (hx.t t ht).1 (hx.t t ht).2 (FpP.setD hd fun _ _ => trivial)))
theorem g3b {T e : TypeId} {sz by_ : Nat} {zs : List AV} (hx : XO D N st x) (hy : XO D N st y) (hd : DD D N d) : FpP D N (a1c G N d (.mks T e sz by_ zs x y)) st sw tt :=
  FpP.bindM (e1j hx fun _ => FpP.bindM (e1j hy fun _ => FpP.bindM (FpP.guard fun _ => FpP.thru (Nat.le_refl _) hd fun _ _ => trivial)))
theorem g2e {i : Nat} (hx : XO D N st x) (hd : DD D N d) : FpP D N (a1c G N d (.ext x i)) st sw tt := by
  refine FpP.bindM (FpP.read hx ?_)
  cases hv : rdv st x <;> simp only <;> try exact FpP.fail
  refine FpP.bindM (FpP.opt fun k _ => ?_)
  split
  · exact FpP.setD hd fun _ _ => trivial
  · exact FpP.bindM (FpP.tmp fun t ht => FpP.bindM (FpP.put (hx.t t ht).1 (hx.t t ht).2 (FpP.thru (Nat.le_refl _) hd fun _ _ => trivial)))
theorem g2t {xT T : TypeId} {zs : List AV} (hx : XO D N st x) (hd : DD D N d) : FpP D N (a1c G N d (.tas x xT T zs)) st sw tt := by
  refine FpP.bindM (FpP.read hx ?_)
  simp only
  split
  · exact FpP.setD hd fun _ _ => trivial
  · exact FpP.setD hd fun _ _ => trivial
  · exact FpP.bindM (FpP.guard fun _ => FpP.setD hd fun _ _ => trivial)
  · exact FpP.fail
theorem h0v {mx : Bool} {ts : List TypeId} (hx : XO D N st x) (hy : XO D N st y) (hd : DD D N d) : FpP D N (a1c G N d (.mm mx ts [x, y])) st sw tt := by
  refine FpP.bindM (b9q hx fun u => FpP.bindM (b9q hy fun v => ?_))
  split
  · exact FpP.bindM (FpP.guard fun _ => FpP.setD hd fun _ _ => trivial)
  · exact FpP.fail
theorem g2b {b : BinOp} {T tp te : TypeId} {yT : TypeId} (hx : XO D N st x) (hy : XO D N st y) (hd : DD D N d) : FpP D N (a1c G N d (.eqs b T tp te x y yT)) st sw tt := by
  refine FpP.bindM (b9q hx fun u => FpP.bindM (b9q hy fun v => ?_))
  split
  · refine FpP.bindM (FpP.guard fun _ => ?_)
    split <;> first | exact FpP.setD hd fun _ _ => trivial | exact FpP.fail
  · exact FpP.fail
end
end Go.Ideal
end
section
set_option linter.unusedVariables false
set_option linter.unusedSimpArgs false
namespace Go.Ideal
open Classical
section
variable {D : Nat → Prop} {N : Nat} {st : St} {sw : List Nat} {d : Option Nat} {x y : X} {G : Nat → Option Value}
theorem e66 {T : TypeId} {sz : Nat} {lo hi : Option X} (hx : XO D N st x) (hlo : ∀ y, lo = some y → XO D N st y) (hhi : ∀ y, hi = some y → XO D N st y) (hd : DD D N d) : FpP D N (a1c G N d (.slice T sz x lo hi none)) st sw tt := by
  refine FpP.bindM (FpP.read hx ?_)
  have rest : FpP D N (do
      a0i (decide (0 < sz))
      let (t, q, lo0, n) ← a9c x
      let v ← c24 t
      let k ← a4o (a0c v.1 q)
      match k with
      | .own sz' n0 _ => do
        let l ← a3i lo 0
        let h ← a3i hi n
        a0i (decide (0 ≤ l) && decide (l ≤ h) && decide (h ≤ (n : Int)) && decide (lo0 + n ≤ n0) && sz' == sz && (lo0 == 0 || l == 0 || decide (l < h)))
        match (none : Option X) with
        | none => setD d (.bor t q (lo0 + l.toNat) (h - l).toNat v.2)
        | some m => do
          let m ← e14 m
          a0i (l == 0 && h == 0 && m == 0 && hi.isSome)
          a4e N d (.own sz 0 [])
      | _ => .fail) st sw tt := by
    refine FpP.bindM (FpP.guard fun _ => FpP.bindM (e5z hx fun t q lo0 n hD hN => FpP.bindM (FpP.get hD hN (FpP.bindM (FpP.opt fun k _ => ?_)))))
    cases k <;> simp only <;> try exact FpP.fail
    exact FpP.bindM (a9f hlo fun _ => FpP.bindM (a9f hhi fun _ => FpP.bindM (FpP.guard fun _ => FpP.setD hd fun _ _ => trivial)))
  cases hv : rdv st x
  case lit v =>
    cases v <;> simp only <;> try exact rest
    exact FpP.bindM (a9f hlo fun _ => FpP.bindM (a9f hhi fun _ => FpP.bindM (FpP.guard fun _ => FpP.setD hd fun _ _ => trivial)))
  case sl => exact FpP.bindM (FpP.guard fun _ => FpP.bindM (a9f hlo fun _ => FpP.bindM (a9f hhi fun _ => FpP.bindM (FpP.guard fun _ => FpP.setD hd fun _ _ => trivial))))
  all_goals exact rest
theorem f0t {P : Unit → St → List Nat → Prop} (hx : XO D N st x) (h : ∀ st' sw', BLe N st st' → N ∈ sw' → P () st' sw') : FpP D N (e0s x N) st sw P := by
  have hN : ¬ N < N := Nat.lt_irrefl _
  refine FpP.bindM (FpP.read hx ?_)
  cases hv : rdv st x <;> simp only <;> try exact FpP.fail
  · cases x with
    | t t => exact FpP.bindM (FpP.put (hx.t t rfl).1 (hx.t t rfl).2 (FpP.putN hN (h _ _ ((BLe.put rfl).trans (BLe.putN hN)) (by simp))))
    | _ => exact FpP.putN hN (h _ _ (BLe.putN hN) (by simp))
  · rename_i t q lo n e
    have hb := hx.b t (by rw [hv]; rfl)
    refine FpP.bindM (FpP.get hb.1 hb.2 (FpP.bindM (FpP.guard fun _ => FpP.bindM (FpP.opt fun k hk => ?_))))
    cases k <;> simp only <;> try exact FpP.fail
    exact FpP.bindM (FpP.guard fun _ => FpP.bindM (FpP.upd hb.1 hb.2 (FpP.putN hN (h _ _ ((BLe.set (a72 hk rfl)).trans (BLe.putN hN)) (by simp)))))
theorem f8a {P : Unit → St → List Nat → Prop} (hx : XO D N st x) (h : ∀ st' sw', (∀ t ∈ sw, t ∈ sw') → N + 1 ∈ sw' → P () st' sw') : FpP D N (f5p x N) st sw P := by
  have hN : ¬ N + 1 < N := by omega
  refine FpP.bindM (FpP.read hx ?_)
  cases hv : rdv st x <;> simp only <;> try exact FpP.fail
  · exact FpP.putN hN (h _ _ (fun t ht => by simp [ht]) (by simp))
  · cases x with
    | t t => exact FpP.bindM (FpP.put (hx.t t rfl).1 (hx.t t rfl).2 (FpP.putN hN (h _ _ (fun t ht => by simp [ht]) (by simp))))
    | _ => exact FpP.putN hN (h _ _ (fun t ht => by simp [ht]) (by simp))
  · rename_i t q lo n e
    have hb := hx.b t (by rw [hv]; rfl)
    refine FpP.bindM (FpP.get hb.1 hb.2 (FpP.bindM (FpP.guard fun _ => FpP.bindM (FpP.opt fun k hk => ?_))))
    cases k <;> simp only <;> try exact FpP.fail
    exact FpP.bindM (FpP.guard fun _ => FpP.bindM (FpP.upd hb.1 hb.2 (FpP.putN hN (h _ _ (fun t ht => by simp [ht]) (by simp)))))
theorem f7c {T e : TypeId} {sz by_ : Nat} (hx : XO D N st x) (hy : XO D N st y) (hd : DD D N d) : FpP D N (a1c G N d (.app T e sz by_ x y)) st sw tt := by
  have hN : ¬ N < N := Nat.lt_irrefl _
  have hN1 : ¬ N + 1 < N := by omega
  refine FpP.bindM (f0t hx fun st1 sw1 hb hs => FpP.bindM (f8a (hy.le hb) fun st2 sw2 hsw hs1 => FpP.bindM (FpP.getv hN (hsw _ hs) (FpP.bindM (FpP.getv hN1 hs1 ?_)))))
  split
  · exact FpP.bindM (FpP.guard fun _ => FpP.bindM (FpP.putN hN1 (FpP.thru (Nat.le_refl _) hd fun _ _ => trivial)))
  · exact FpP.bindM (FpP.guard fun _ => FpP.bindM (FpP.putN hN1 (FpP.thru (Nat.le_refl _) hd fun _ _ => trivial)))
  · exact FpP.fail
theorem e8f {j : Nat} (hj : N ≤ j) {P : Unit → St → List Nat → Prop} (hx : XO D N st x) (h : ∀ st' sw', BLe N st st' → (∀ t ∈ sw, t ∈ sw') → j ∈ sw' → P () st' sw') : FpP D N (d8i N x j) st sw P := by
  have hN : ¬ j < N := Nat.not_lt.2 hj
  have one : ∀ {v : AV}, FpP D N (a3h j v) st sw P := FpP.putN hN (h _ _ (BLe.putN hN) (fun t ht => by simp [ht]) (by simp))
  have tail : ∀ v : AV, FpP D N (a37 x j v) st sw P := by
    intro v
    unfold a37
    cases x with
    | t t =>
      simp only
      split
      · exact one
      · exact FpP.bindM (FpP.put (hx.t t rfl).1 (hx.t t rfl).2 (FpP.putN hN (h _ _ ((BLe.put rfl).trans (BLe.putN hN)) (fun t ht => by simp [ht]) (by simp))))
    | _ => exact one
  refine FpP.bindM (FpP.read hx ?_)
  cases hv : rdv st x <;> simp only
  case dead => exact FpP.fail
  case bor t q lo n e =>
    have hb := hx.b t (by rw [hv]; rfl)
    refine FpP.bindM (FpP.get hb.1 hb.2 (FpP.bindM (FpP.guard fun _ => FpP.bindM (FpP.opt fun k hk => ?_))))
    cases k <;> simp only <;> try exact FpP.fail
    exact FpP.bindM (FpP.guard fun _ => FpP.bindM (FpP.upd hb.1 hb.2 (FpP.putN hN (h _ _ ((BLe.set (a72 hk rfl)).trans (BLe.putN hN)) (fun t ht => by simp [ht]) (by simp)))))
  all_goals exact FpP.bindM (FpP.guard fun _ => tail _)
theorem e72 {v : AV} (h : a0l v = false) : a2w (frz v) = none := by
  cases v <;> first | rfl | simp [a0l] at h
theorem e7l {j : Nat} (hj : N ≤ j) {P : Unit → St → List Nat → Prop} (hx : XO D N st x) (h : ∀ st' sw', BLe N st st' → (∀ t ∈ sw, t ∈ sw') → j ∈ sw' → P () st' sw') : FpP D N (d06 N x j) st sw P := by
  have hN : ¬ j < N := Nat.not_lt.2 hj
  have one : ∀ {v : AV}, FpP D N (a3h j v) st sw P := FpP.putN hN (h _ _ (BLe.putN hN) (fun t ht => by simp [ht]) (by simp))
  have tail : ∀ v : AV, FpP D N (a3r x j v) st sw P := by
    intro v
    unfold a3r
    cases x with
    | t t =>
      simp only
      split
      · exact one
      · rename_i hno
        exact FpP.bindM (FpP.upd (hx.t t rfl).1 (hx.t t rfl).2 (FpP.putN hN (h _ _ ((BLe.set (e72 (by simpa using hno))).trans (BLe.putN hN)) (fun t ht => by simp [ht]) (by simp))))
    | _ => exact one
  refine FpP.bindM (FpP.read hx ?_)
  cases hv : rdv st x <;> simp only
  case dead => exact FpP.fail
  case bor t q lo n e =>
    have hb := hx.b t (by rw [hv]; rfl)
    refine FpP.bindM (FpP.get hb.1 hb.2 (FpP.bindM (FpP.guard fun _ => FpP.bindM (FpP.opt fun k hk => ?_))))
    cases k <;> simp only <;> try exact FpP.fail
    exact FpP.bindM (FpP.guard fun _ => FpP.bindM (FpP.upd hb.1 hb.2 (FpP.putN hN (h _ _ ((BLe.set (a72 hk rfl)).trans (BLe.putN hN)) (fun t ht => by simp [ht]) (by simp)))))
  all_goals exact FpP.bindM (FpP.guard fun _ => tail _)
theorem e05 : ∀ (xs : List (Bool × X)) (j : Nat) {st : St} {sw : List Nat} {P : Unit → St → List Nat → Prop}, N ≤ j → (∀ p ∈ xs, XO D N st p.2) → (∀ st' sw', BLe N st st' → (∀ t ∈ sw, t ∈ sw') → (∀ i x, xs[i]? = some (true, x) → j + i ∈ sw') → P () st' sw') → FpP D N (a5r N j xs) st sw P
  | [], j, st, sw, P, hj, hx, h => FpP.ret (h _ _ (BLe.refl _) (fun _ h => h) (fun i x hi => by simp at hi))
  | (b, x) :: xs, j, st, sw, P, hj, hx, h => by
    refine FpP.bindM ?_
    have go : ∀ st1 sw1, BLe N st st1 → (∀ t ∈ sw, t ∈ sw1) → (b = true → j ∈ sw1) → FpP D N (a5r N (j + 1) xs) st1 sw1 P := fun st1 sw1 hb hs hj1 =>
      e05 xs (j + 1) (by omega) (fun p hp => (hx p (by simp [hp])).le hb) fun st2 sw2 hb2 hs2 hi => h _ _ (hb.trans hb2) (fun t ht => hs2 t (hs t ht)) fun i y hy => by
        cases i with
        | zero =>
          simp only [List.getElem?_cons_zero, Option.some.injEq, Prod.mk.injEq] at hy
          exact hs2 _ (hj1 hy.1)
        | succ i => rw [show j + (i + 1) = j + 1 + i by omega]; exact hi i y (by simpa using hy)
    cases b with
    | true => exact e8f hj (hx (true, x) (by simp)) fun st1 sw1 hb hs hj1 => go st1 sw1 hb hs fun _ => hj1
    | false => exact FpP.ret (go st sw (BLe.refl _) (fun _ h => h) fun hc => by cases hc)
theorem d5l : ∀ (xs : List (Bool × X)) (j : Nat) {st : St} {sw : List Nat} {P : Unit → St → List Nat → Prop}, N ≤ j → (∀ p ∈ xs, XO D N st p.2) → (∀ st' sw', (∀ t ∈ sw, t ∈ sw') → (∀ i x, xs[i]? = some (false, x) → j + i ∈ sw') → P () st' sw') → FpP D N (a3x N j xs) st sw P
  | [], j, st, sw, P, hj, hx, h => FpP.ret (h _ _ (fun _ h => h) (fun i x hi => by simp at hi))
  | (b, x) :: xs, j, st, sw, P, hj, hx, h => by
    refine FpP.bindM ?_
    have go : ∀ st1 sw1, BLe N st st1 → (∀ t ∈ sw, t ∈ sw1) → (b = false → j ∈ sw1) → FpP D N (a3x N (j + 1) xs) st1 sw1 P := fun st1 sw1 hb hs hj1 =>
      d5l xs (j + 1) (by omega) (fun p hp => (hx p (by simp [hp])).le hb) fun st2 sw2 hs2 hi => h _ _ (fun t ht => hs2 t (hs t ht)) fun i y hy => by
        cases i with
        | zero =>
          simp only [List.getElem?_cons_zero, Option.some.injEq, Prod.mk.injEq] at hy
          exact hs2 _ (hj1 hy.1)
        | succ i => rw [show j + (i + 1) = j + 1 + i by omega]; exact hi i y (by simpa using hy)
    cases b with
    | false => exact e7l hj (hx (false, x) (by simp)) fun st1 sw1 hb hs hj1 => go st1 sw1 hb hs fun _ => hj1
    | true => exact FpP.ret (go st sw (BLe.refl _) (fun _ h => h) fun hc => by cases hc)
end
def c1v : IOp → Option (List X)
  | .mv x => some [x]
  | .asg x => some [x]
  | .mva x => some [x]
  | .mvf x => some [x]
  | .pick c x y => some [c, x, y]
  | .alloc _ _ => some []
  | .box _ _ x => some [x]
  | .build _ _ parts => some (parts.map fun p => p.2.2.2)
  | .bslice _ _ _ _ _ parts => some (parts.map fun p => p.2)
  | .load _ _ x => some [x]
  | .store _ _ x y => some [x, y]
  | .nilck x => some [x]
  | .bin _ _ _ x y _ => some [x, y]
  | .un _ _ x => some [x]
  | .eqs _ _ _ _ x y _ => some [x, y]
  | .conv _ _ (.int _) x => some [x]
  | .mki _ x => some [x]
  | .mks _ _ _ _ _ x y => some [x, y]
  | .slice _ _ x lo hi none => some (x :: (lo.toList ++ hi.toList))
  | .faddr _ _ x _ => some [x]
  | .iaddr _ _ x i => some [x, i]
  | .ext x _ => some [x]
  | .tas x _ _ _ => some [x]
  | .len _ _ x => some [x]
  | .app _ _ _ _ x y => some [x, y]
  | .mm _ _ [x, y] => some [x, y]
  | _ => none
def f5g (N : Nat) (st : St) : IOp → Bool
  | .store _ _ _ y => match giv st N y (rdv st y) with
    | some r => a0j r.2
    | none => true
  | _ => true
def e3v (N : Nat) (st : St) : IOp → Prop
  | .store _ _ _ y => match giv st N y (rdv st y) with
    | some r => a0j r.2 = true
    | none => True
  | _ => True
theorem e95 {N : Nat} {st : St} {i : IOp} (h : f5g N st i = true) : e3v N st i := by
  cases i <;> try trivial
  simp only [f5g, e3v] at h ⊢
  split <;> rename_i hh
  · rw [hh] at h; exact h
  · trivial
theorem g1n {D : Nat → Prop} {N : Nat} {st : St} {sw : List Nat} {d : Option Nat} {G : Nat → Option Value} {i : IOp} {xs : List X} (ho : c1v i = some xs) (hx : ∀ x ∈ xs, XO D N st x) (hd : DD D N d) (hs : e3v N st i ∨ ∀ t, t < N → D t) : FpP D N (a1c G N d i) st sw tt := by
  cases i <;> simp only [c1v, Option.some.injEq, reduceCtorEq] at ho
  case mv => subst ho; exact f8m (hx _ (by simp)) hd
  case asg => subst ho; exact e81 (hx _ (by simp)) hd
  case mva => subst ho; exact e81 (hx _ (by simp)) hd
  case mvf => subst ho; exact f8m (hx _ (by simp)) hd
  case pick => subst ho; exact f1g (hx _ (by simp)) (hx _ (by simp)) (hx _ (by simp)) hd
  case alloc => exact e75 hd
  case box => subst ho; exact g0f (hx _ (by simp)) hd
  case build => subst ho; exact e7e (fun p hp => hx _ (List.mem_map.2 ⟨p, hp, rfl⟩)) hd
  case bslice => subst ho; exact e46 (fun p hp => hx _ (List.mem_map.2 ⟨p, hp, rfl⟩)) hd
  case load => subst ho; exact e5n (hx _ (by simp)) hd
  case store T s x y =>
    subst ho
    by_cases hdn : d = none
    · refine e8o (hx _ (by simp)) (hx _ (by simp)) hdn fun r hr => ?_
      rcases hs with hs | hs
      · simp only [e3v, hr] at hs
        exact .inl hs
      · exact .inr hs
    · intro a st' hr
      exfalso
      cases d with
      | none => exact hdn rfl
      | some d => cases hr
  case nilck => subst ho; exact e8n (hx _ (by simp)) hd
  case bin => subst ho; exact g28 (hx _ (by simp)) (hx _ (by simp)) hd
  case un => subst ho; exact h2n (hx _ (by simp)) hd
  case eqs => subst ho; exact g2b (hx _ (by simp)) (hx _ (by simp)) hd
  case conv s t k x =>
    cases k <;> simp only [c1v, Option.some.injEq, reduceCtorEq] at ho
    subst ho; exact e8k (hx _ (by simp)) hd
  case mki => subst ho; exact f98 (hx _ (by simp)) hd
  case mks => subst ho; exact g3b (hx _ (by simp)) (hx _ (by simp)) hd
  case slice T sz x lo hi mx =>
    cases mx <;> simp only [c1v, Option.some.injEq, reduceCtorEq] at ho
    subst ho
    exact e66 (hx _ (by simp)) (fun y hy => hx _ (by simp [hy])) (fun y hy => hx _ (by simp [hy])) hd
  case faddr => subst ho; exact e68 (hx _ (by simp)) hd
  case iaddr => subst ho; exact e6l (hx _ (by simp)) (hx _ (by simp)) hd
  case ext => subst ho; exact g2e (hx _ (by simp)) hd
  case tas => subst ho; exact g2t (hx _ (by simp)) hd
  case len => subst ho; exact e6o (hx _ (by simp)) hd
  case app => subst ho; exact f7c (hx _ (by simp)) (hx _ (by simp)) hd
  case mm mx ts xs2 =>
    match xs2, ho with
    | [x, y], ho =>
      simp only [Option.some.injEq] at ho
      subst ho
      exact h0v (hx _ (by simp)) (hx _ (by simp)) hd
end Go.Ideal
end
section
set_option linter.unusedVariables false
set_option linter.unusedSimpArgs false
namespace Go.Ideal
open Classical
def f5v (st : St) : X → List Nat
  | .t n => n :: (a2w (st.s n)).toList
  | _ => []
def a05 (st : St) : List X → List Nat
  | [] => []
  | x :: xs => f5v st x ++ a05 st xs
def slX : X → List Nat
  | .t n => [n]
  | _ => []
def slL : List X → List Nat
  | [] => []
  | x :: xs => slX x ++ slL xs
theorem d11 {st : St} {x : X} : ∀ {xs : List X}, x ∈ xs → ∀ t ∈ f5v st x, t ∈ a05 st xs
  | y :: ys, h, t, ht => by
    rcases List.mem_cons.1 h with rfl | h
    · simp [a05, ht]
    · simp [a05, d11 h t ht]
theorem f1q {DL : List Nat} {N : Nat} {st : St} {xs : List X} (h : ∀ t ∈ a05 st xs, t ∈ DL) (hN : ∀ t ∈ DL, t < N) : ∀ x ∈ xs, XO (· ∈ DL) N st x := fun x hx => {
  t := fun t ht => by
    subst ht
    have := h t (d11 hx t (by simp [f5v]))
    exact ⟨this, hN t this⟩
  b := fun u hu => by
    cases x with
    | t t =>
      have := h u (d11 hx u (by simp [f5v, show a2w (st.s t) = some u from hu]))
      exact ⟨this, hN u this⟩
    | _ => cases hu }
def fr (N : Nat) (W : List Nat) (st st' : St) : Prop := ∀ t, t < N → t ∉ W → agr st st' t
section
variable {V : List (Nat × Nat)} {P : Program} {G : Nat → Option Value} {N : Nat} {st st' : St} {step : (St → Prop) → St → Prop}
theorem Loc.widen {rd wr DL W : List Nat} (h : Loc P G N V step st st' rd wr) (h1 : ∀ t ∈ rd, t ∈ DL) (h2 : ∀ t ∈ wr, t ∈ DL) (h3 : ∀ t ∈ DL, t < N) (h4 : ∀ t ∈ W, t < N) (hf : fr N W st st') : Loc P G N V step st st' DL W where
  lt t ht := ht.elim (h3 t) (h4 t)
  frame t ht hn := hf t ht hn
  loc st2 hV hst K hK := h.loc st2 hV (fun t ht => hst t (.inl (ht.elim (h1 t) (h2 t)))) K fun st2' g1 g2 => hK st2' (fun t ht => by
      by_cases hw : t ∈ wr
      · exact g1 t hw
      · exact ((h.frame t (h4 t ht) hw).symm.trans (hst t (.inr ht))).trans (g2 t (h4 t ht) hw)) (fun t ht hn => by
      by_cases hw : t ∈ wr
      · exact ((hst t (.inl (h2 t hw))).symm.trans (hf t ht hn)).trans (g1 t hw)
      · exact g2 t ht hw)
theorem g2w {d : Option Nat} {i : IOp} {xs : List X} {W : List Nat} (ho : c1v i = some xs) (he : evS G N d i st = some st') (hN : ∀ t ∈ d.toList ++ a05 st xs, t < N) (hW : ∀ t ∈ W, t < N) (hs : e3v N st i) (hf : fr N W st st') :
    Loc P G N V (c80 P G N d (.op i)) st st' (d.toList ++ a05 st xs) W := by
  have hx := f1q (DL := d.toList ++ a05 st xs) (st := st) (xs := xs) (fun t ht => by simp [ht]) hN
  have hd : DD (· ∈ d.toList ++ a05 st xs) N d := fun t ht => by
    subst ht
    exact ⟨by simp, hN t (by simp)⟩
  unfold evS at he
  cases hr : (a1c G N d i).run st with
  | none => rw [hr] at he; cases he
  | some r =>
    obtain ⟨u, st1⟩ := r
    rw [hr] at he
    simp only [Option.map, Option.some.injEq] at he
    subst he
    obtain ⟨rd, wr, sw', g1, g2, g3, _⟩ := g1n (sw := []) ho hx hd (.inl hs) u st1 hr
    obtain ⟨st2, rd2, wr2, ⟨rfl, rfl, rfl⟩, hL⟩ := d28 (V := V) (P := P) (G := G) (N := N) (d := d) (act := .op i) (st := st) (K := fun st2 rd2 wr2 => st2 = st1 ∧ rd2 = rd ∧ wr2 = wr) (by simp only [f9m, g1, and_self])
    exact hL.widen g2 g3 hN hW hf
theorem f0a {d : Nat} {p : Nat × Nat} (hI : b4q V st) (hp : p ∈ V) (hd : d < N) (he : evS G N (some d) (.mv (.t p.1)) st = some st') : Loc P G N V (c80 P G N (some d) (.op (.mv (.t p.1)))) st st' (some d).toList [d] ∧ True := by
  have run : ∀ s : St, b4q V s → (a1c G N (some d) (.mv (.t p.1))).run s = some ((), s.put d (.ref p.1 [] 0 p.2)) := by
    intro s hs
    obtain ⟨h1, h2⟩ := hs p hp
    cases hv : s.s p.1 <;> simp only [hv, d7i, reduceCtorEq] at h1
    simp only [a1c, mvE, Ev.run_bind, a0r, rdv, rde, hv, c7z, Ev.run, setD, a3h, Option.bind, h2]
  have hst : st' = st.put d (.ref p.1 [] 0 p.2) := by
    simp only [evS, run st hI, Option.map, Option.some.injEq] at he
    exact he.symm
  subst hst
  refine ⟨⟨fun t ht => ?_, fun t ht hn => ?_, fun st2 hV2 hag K hK => ?_⟩, trivial⟩
  · rcases ht with ht | ht <;> simp at ht <;> subst ht <;> exact hd
  · exact agr.putn _ (by simpa using hn)
  · simp only [c80, run st2 hV2]
    refine hK _ (fun t ht => (hag t (.inr ht)).put _) (fun t ht hn => agr.putn _ (by simpa using hn))
theorem e64 {d : Option Nat} {i : IOp} {xs : List X} (ho : c1v i = some xs) (he : evS G N d i st = some st') (hN : ∀ t ∈ d.toList ++ a05 st xs, t < N) :
    Loc P G N V (c80 P G N d (.op i)) st st' (List.range N) (List.range N) := by
  have hx : ∀ x ∈ xs, XO (· < N) N st x := fun x hx => by
    have := f1q (DL := d.toList ++ a05 st xs) (st := st) (xs := xs) (fun t ht => by simp [ht]) hN x hx
    exact { t := fun t ht => ⟨(this.t t ht).2, (this.t t ht).2⟩, b := fun u hu => ⟨(this.b u hu).2, (this.b u hu).2⟩ }
  have hd : DD (· < N) N d := fun t ht => by
    subst ht
    exact ⟨hN t (by simp), hN t (by simp)⟩
  unfold evS at he
  cases hr : (a1c G N d i).run st with
  | none => rw [hr] at he; cases he
  | some r =>
    obtain ⟨u, st1⟩ := r
    rw [hr] at he
    simp only [Option.map, Option.some.injEq] at he
    subst he
    obtain ⟨rd, wr, sw', g1, g2, g3, _⟩ := g1n (sw := []) ho hx hd (.inr fun t ht => ht) u st1 hr
    obtain ⟨st2, rd2, wr2, ⟨rfl, rfl, rfl⟩, hL⟩ := d28 (V := V) (P := P) (G := G) (N := N) (d := d) (act := .op i) (st := st) (K := fun st2 rd2 wr2 => st2 = st1 ∧ rd2 = rd ∧ wr2 = wr) (by simp only [f9m, g1, and_self])
    exact hL.widen (fun t ht => List.mem_range.2 (g2 t ht)) (fun t ht => List.mem_range.2 (g3 t ht)) (fun t ht => List.mem_range.1 ht) (fun t ht => List.mem_range.1 ht) (fun t ht hn => absurd (List.mem_range.2 ht) hn)
theorem e7v {d : Option Nat} {f : FuncId} {args : List (Bool × X)} {tys : List TypeId} {st1 st2 : St} {res : AV} {W : List Nat} (h1 : gvs N (N + 2) args (some st) = some st1) (h2 : pss N (N + 2) args (some st1) = some st2) (hA : ACalls P G f (a7b N args.length st2) res) (hn : a0k res = true)
    (hN : ∀ t ∈ d.toList ++ a05 st (args.map (·.2)), t < N) (hW : ∀ t ∈ W, t < N) (hf : fr N W st (b82 (if a0w res then st1 else st2) N d res)) :
    Loc P G N V (c80 P G N d (.call f args tys)) st (b82 (if a0w res then st1 else st2) N d res) (d.toList ++ a05 st (args.map (·.2))) W := by
  have hx := f1q (DL := d.toList ++ a05 st (args.map (·.2))) (st := st) (xs := args.map (·.2)) (fun t ht => by simp [ht]) hN
  have hx' : ∀ p ∈ args, XO (· ∈ d.toList ++ a05 st (args.map (·.2))) N st p.2 := fun p hp => hx _ (List.mem_map.2 ⟨p, hp, rfl⟩)
  have hd : DD (· ∈ d.toList ++ a05 st (args.map (·.2))) N d := fun t ht => by
    subst ht
    exact ⟨by simp, hN t (by simp)⟩
  rw [← a89] at h1
  cases hr1 : (a5r N (N + 2) args).run st with
  | none => rw [hr1] at h1; cases h1
  | some r1 =>
    obtain ⟨u1, st1'⟩ := r1
    rw [hr1] at h1
    simp only [Option.map, Option.some.injEq] at h1
    subst h1
    rw [← a38] at h2
    cases hr2 : (a3x N (N + 2) args).run st1' with
    | none => rw [hr2] at h2; cases h2
    | some r2 =>
      obtain ⟨u2, st2'⟩ := r2
      rw [hr2] at h2
      simp only [Option.map, Option.some.injEq] at h2
      subst h2
      obtain ⟨rd, wr, sw1, a1, a2, a3, hb, _, a4⟩ := e05 (N := N) (D := (· ∈ d.toList ++ a05 st (args.map (·.2)))) args (N + 2) (st := st) (sw := []) (P := fun _ st' sw' => BLe N st st' ∧ (∀ t ∈ [], t ∈ sw') ∧ (∀ i x, args[i]? = some (true, x) → N + 2 + i ∈ sw')) (by omega) hx' (fun st' sw' b1 b2 b3 => ⟨b1, b2, b3⟩) u1 st1' hr1
      obtain ⟨rd2, wr2, sw2, c1, c2, c3, c4, c5⟩ := d5l (N := N) (D := (· ∈ d.toList ++ a05 st (args.map (·.2)))) args (N + 2) (st := st1') (sw := sw1) (P := fun _ st' sw' => (∀ t ∈ sw1, t ∈ sw') ∧ (∀ i x, args[i]? = some (false, x) → N + 2 + i ∈ sw')) (by omega) (fun p hp => (hx' p hp).le hb) (fun st' sw' b1 b2 => ⟨b1, b2⟩) u2 st2' hr2
      have hfin : ∃ rd3 wr3 sw3, (d8c N d res).runF N ((if a0w res then st1' else st2').clear N) [] = some ⟨(), b82 (if a0w res then st1' else st2') N d res, rd3, wr3, sw3⟩ ∧ (∀ t ∈ rd3, t ∈ d.toList ++ a05 st (args.map (·.2))) ∧ (∀ t ∈ wr3, t ∈ d.toList ++ a05 st (args.map (·.2))) := by
        cases d with
        | none => exact ⟨[], [], [], rfl, by simp, by simp⟩
        | some d =>
          obtain ⟨rd3, wr3, sw3, e1, e2, e3, _⟩ := FpP.thru (D := (· ∈ (some d).toList ++ a05 st (args.map (·.2)))) (N := N) (st := (if a0w res then st1' else st2').clear N) (sw := []) (d := some d) (v := res) (M := N) (P := tt) (Nat.le_refl _) hd (fun _ _ => trivial) () _ (by rw [a82])
          exact ⟨rd3, wr3, sw3, e1, e2, e3⟩
      obtain ⟨rd3, wr3, sw3, e1, e2, e3⟩ := hfin
      obtain ⟨st3, rd4, wr4, ⟨rfl, hrd, hwr⟩, hL⟩ := d28 (V := V) (P := P) (G := G) (N := N) (d := d) (act := .call f args tys) (st := st) (K := fun s2 r2 w2 => s2 = b82 (if a0w res then st1' else st2') N d res ∧ (∀ t ∈ r2, t ∈ d.toList ++ a05 st (args.map (·.2))) ∧ (∀ t ∈ w2, t ∈ d.toList ++ a05 st (args.map (·.2)))) (by
        refine ⟨_, _, _, res, a1, c1, hA, hn, e1, fun i hi => ?_, rfl, fun t ht => ?_, fun t ht => ?_⟩
        · cases ha : args[i]? with
          | none => simp at ha; omega
          | some p =>
            obtain ⟨b, x⟩ := p
            cases b with
            | true => exact c4 _ (a4 i x ha)
            | false => exact c5 i x ha
        · simp only [List.mem_append] at ht
          rcases ht with ((ht | ht) | ht) | ht
          · exact a2 t ht
          · exact c2 t ht
          · exact c3 t ht
          · exact e2 t ht
        · split at ht <;> simp only [List.mem_append] at ht
          · rcases ht with ht | ht
            · exact a3 t ht
            · exact e3 t ht
          · rcases ht with (ht | ht) | ht
            · exact a3 t ht
            · exact c3 t ht
            · exact e3 t ht)
      exact hL.widen hrd hwr hN hW hf
end
def d6z (st : St) (N : Nat) (T : List (Nat × AV)) (d : Option Nat) (res : AV) : St := match d with
  | some d => (st.lentS N T).thru N d res
  | none => st.lentS N T
theorem c54 {α : Type} {T : List (Nat × α)} {t : Nat} {v : α} (h : T.lookup t = some v) : (t, v) ∈ T := by
  induction T with
  | nil => simp at h
  | cons p T ih =>
    obtain ⟨u, x⟩ := p
    by_cases h2 : t = u
    · subst h2
      simp at h
      simp [h]
    · have : (t == u) = false := by simpa using h2
      simp only [List.lookup_cons, this] at h
      exact List.mem_cons_of_mem _ (ih h)
def e7g : AV → Bool
  | .lit _ => true
  | _ => false
def a41 (rd : List Nat) : X → Bool
  | .t n => rd.contains n
  | _ => true
def d1a (st : St) (rd : List Nat) (args : List (Bool × X)) : Bool := args.all fun p => !p.1 && (e7g (rdv st p.2) && a41 rd p.2)
def a1b (st : St) (j : Nat) : List (Bool × X) → St
  | [] => st
  | p :: ps => a1b (st.put j (rdv st p.2)) (j + 1) ps
mutual
def a3d (rd : List Nat) : AV → Bool
  | .ref t _ _ _ => rd.contains t
  | .bor t _ _ _ _ => rd.contains t
  | .fn _ fs cs => a2j rd fs && a2j rd cs
  | _ => true
def a2j (rd : List Nat) : List AV → Bool
  | [] => true
  | k :: ks => a3d rd k && a2j rd ks
end
def d7w (st : St) (rd : List Nat) (n : Nat) (lay : List CS) : Bool := lay.all fun
  | .p k => decide (k < n)
  | .x y => a41 rd y && a3d rd (xv st y)
theorem e4e {v : AV} (h : e7g v = true) : ∃ u, v = .lit u := by cases v <;> simp [e7g] at h; exact ⟨_, rfl⟩
theorem d9c {st : St} {j N : Nat} {v : AV} {x : X} (hx : ∀ n, x = .t n → n < N) (hj : N ≤ j) : rdv (st.put j v) x = rdv st x := by
  cases x with
  | t n => have := hx n rfl; simp [rdv, show n ≠ j by omega]
  | _ => rfl
theorem c01 {N : Nat} : ∀ (args : List (Bool × X)) (j : Nat) (st : St), (args.all fun p => !p.1) = true → (a5r N j args).run st = some ((), st)
  | [], j, st, _ => rfl
  | (g, x) :: xs, j, st, h => by
    simp only [List.all_cons, Bool.and_eq_true, Bool.not_eq_true'] at h
    obtain ⟨rfl, h2⟩ := h
    simp only [a5r, Bool.false_eq_true, if_false, Ev.run_bind, Ev.run_pure, Option.bind]
    exact c01 xs (j + 1) st h2
theorem b6m {N : Nat} : ∀ (args : List (Bool × X)) (j : Nat) (st : St), N ≤ j → (∀ p ∈ args, p.1 = false ∧ e7g (rdv st p.2) = true ∧ ∀ n, p.2 = .t n → n < N) → (a3x N j args).run st = some ((), a1b st j args)
  | [], j, st, _, _ => rfl
  | (g, x) :: xs, j, st, hj, h => by
    obtain ⟨h1, h2, h3⟩ := h _ (List.mem_cons_self ..)
    simp only at h1 h2 h3
    subst h1
    obtain ⟨u, hu⟩ := e4e h2
    have hp : (d06 N x j).run st = some ((), st.put j (rdv st x)) := by
      unfold d06
      simp only [Ev.run_bind, a0r, hu, Option.bind, a0k, a0d, if_true]
      cases x <;> simp [a3r, a0l, frz, a7p]
    simp only [a3x, Bool.false_eq_true, if_false, Ev.run_bind, hp, Option.bind, a1b]
    refine b6m xs (j + 1) _ (by omega) fun p hp2 => ?_
    obtain ⟨k1, k2, k3⟩ := h p (List.mem_cons_of_mem _ hp2)
    exact ⟨k1, by rw [d9c k3 hj]; exact k2, k3⟩
theorem c08 {N : Nat} : ∀ (args : List (Bool × X)) (j : Nat) (st : St), (∀ t, t < j → (a1b st j args).s t = st.s t)
  | [], j, st, t, _ => rfl
  | p :: ps, j, st, t, ht => by
    rw [a1b, c08 (N := N) ps (j + 1) _ t (by omega)]
    simp [show t ≠ j by omega]
theorem c5j : ∀ (args : List (Bool × X)) (j : Nat) (st : St) (N : Nat), N ≤ j → (∀ p ∈ args, e7g (rdv st p.2) = true ∧ ∀ n, p.2 = .t n → n < N) → ∀ t, (a1b st j args).ep t = st.ep t
  | [], j, st, N, _, _, t => rfl
  | p :: ps, j, st, N, hj, h, t => by
    obtain ⟨h1, h2⟩ := h _ (List.mem_cons_self ..)
    obtain ⟨u, hu⟩ := e4e h1
    rw [a1b, c5j ps (j + 1) _ N (by omega) (fun q hq => by
      obtain ⟨k1, k2⟩ := h q (List.mem_cons_of_mem _ hq)
      exact ⟨by rw [d9c k2 hj]; exact k1, k2⟩) t]
    simp [hu, St.put_ep, a0e]
theorem b4p {N : Nat} : ∀ (args : List (Bool × X)) (j : Nat) (st : St), N ≤ j → (∀ p ∈ args, ∀ n, p.2 = .t n → n < N) → ∀ i p, args[i]? = some p → (a1b st j args).s (j + i) = rdv st p.2
  | [], j, st, _, _, i, p, h => by simp at h
  | q :: ps, j, st, hj, hx, i, p, h => by
    rw [a1b]
    cases i with
    | zero =>
      simp only [List.getElem?_cons_zero, Option.some.injEq] at h
      subst h
      rw [c08 (N := N) ps (j + 1) _ (j + 0) (by omega)]
      simp
    | succ i =>
      have := b4p ps (j + 1) (st.put j (rdv st q.2)) (by omega) (fun p hp => hx p (List.mem_cons_of_mem _ hp)) i p (by simpa using h)
      rw [show j + (i + 1) = j + 1 + i by omega, this]
      exact d9c (hx p (List.mem_cons_of_mem _ (List.mem_of_getElem? (by simpa using h)))) hj
mutual
theorem d63 {stA stB : St} {rd : List Nat} {L : List (Nat × Nat)} (h : ∀ t, t ∈ rd → stB.ep t = stA.ep t) : ∀ av, a3d rd av = true → trA stB L av = trA stA L av
  | .ref t q o e, hr => by
    simp only [a3d, List.contains_iff_mem] at hr
    simp only [trA, h t hr]
  | .fn f fs cs, hr => by
    simp only [a3d, Bool.and_eq_true] at hr
    simp only [trA, c35 h fs hr.1, c35 h cs hr.2]
  | .bor _ _ _ _ _, _ => by simp only [trA]
  | .dead, _ | .lit _, _ | .sl _ _, _ | .ip _ _, _ | .own _ _ _, _ | .var _, _ | .agg _, _ | .tup _, _ | .ifc _ _, _ => by simp only [trA]
theorem c35 {stA stB : St} {rd : List Nat} {L : List (Nat × Nat)} (h : ∀ t, t ∈ rd → stB.ep t = stA.ep t) : ∀ ks, a2j rd ks = true → trL stB L ks = trL stA L ks
  | [], _ => by simp only [trL]
  | k :: ks, hr => by
    simp only [a2j, Bool.and_eq_true] at hr
    simp only [trL, d63 h k hr.1, c35 h ks hr.2]
end
theorem d0x {N : Nat} {s1 s2 t1 t2 : St} {rd : List Nat} (h : ∀ t, t ∈ rd → t1.s t = s1.s t ∧ t2.s t = s2.s t ∧ t2.ep t = s2.ep t) : ∀ (es : List (Option Nat × AV)) (acc : List AV) (L : List (Nat × Nat)), (∀ p ∈ es, a3d rd p.2 = true) → pX N t1 t2 acc L es = pX N s1 s2 acc L es
  | [], acc, L, _ => by simp only [pX]
  | (some k, av) :: es, acc, L, hr => by
    have ih : ∀ a l, pX N t1 t2 a l es = pX N s1 s2 a l es := fun a l => d0x h es a l fun p hp => hr p (List.mem_cons_of_mem _ hp)
    simp only [pX, ih]
  | (none, av) :: es, acc, L, hr => by
    have ih : ∀ a l, pX N t1 t2 a l es = pX N s1 s2 a l es := fun a l => d0x h es a l fun p hp => hr p (List.mem_cons_of_mem _ hp)
    have h0 := hr _ (List.mem_cons_self ..)
    simp only at h0
    have gen : ∀ av, a3d rd av = true → trA t2 L av = trA s2 L av := fun av ha => d63 (fun t ht => (h t ht).2.2) av ha
    cases av with
    | ref t q o e =>
      have ht : t ∈ rd := by simpa [a3d] using h0
      obtain ⟨a1, a2, a3⟩ := h t ht
      cases q with
      | nil =>
        cases o with
        | zero => simp only [pX, ih, a1, a2, a3]
        | succ o => simp only [pX, gen _ h0, ih]
      | cons i q => simp only [pX, gen _ h0, ih]
    | _ => simp only [pX, gen _ h0, ih]
theorem e5t {V : List (Nat × Nat)} {P : Program} {G : Nat → Option Value} {N : Nat} {st : St} {d : Option Nat} {cv : X} {args : List (Bool × X)} {lay : List CS} {tys : List TypeId} {f : FuncId} {fs cs pre : List AV} {L : List (Nat × Nat)} {res : AV} {posts : List (Nat × AV)} {rd : List Nat}
    (ha : d1a st rd args = true) (hcv : a41 rd cv = true) (hfn : xv st cv = .fn f fs cs) (hfB : fnB P f = true) (hri : (a2j rd fs && a2j rd cs) = true) (hlay : d7w st rd args.length lay = true)
    (hpx : pX N st (a1b st (N + 2) args) [] [] (c9i N (a1b st (N + 2) args) fs lay cs) = some (pre, L)) (hA : ACallsX P G f pre res posts) (hnr : a0k res = true) (hpo : posts.map (·.1) = L.map (·.2)) (hvar : ∀ i av, (i, av) ∈ posts → ∃ ks, av = .var ks ∧ a0j ks = true)
    (hrd : ∀ t ∈ rd, t < N) (hd : ∀ t ∈ d.toList, t < N) (hL : ∀ t ∈ L.map (·.1), t < N ∧ t ∈ rd) :
    Loc P G N V (c80 P G N d (.callx cv args lay tys)) st (d6z st N ((L.map (·.1)).zip (posts.map (·.2))) d res) (d.toList ++ rd) (d.toList ++ L.map (·.1)) := by
  have hT : ∀ t q, a66 ((L.map (·.1)).zip (posts.map (·.2))) t q = false := by
    intro t q
    unfold a66
    split
    · rename_i i q' ks hl
      have hm := (List.of_mem_zip (c54 hl)).2
      obtain ⟨p, hp, hpe⟩ := List.mem_map.1 hm
      obtain ⟨ks', he, hno⟩ := hvar p.1 p.2 hp
      rw [hpe] at he
      injection he with he
      subst he
      simp [hno]
    · rfl
  have run : ∀ s : St, (∀ t, t ∈ d.toList ++ rd ∨ t ∈ d.toList ++ L.map (·.1) → agr st s t) → ∀ K : St → Prop, K (d6z s N ((L.map (·.1)).zip (posts.map (·.2))) d res) → c80 P G N d (.callx cv args lay tys) K s := by
    intro s hag K hK
    have hrs : ∀ t, t ∈ rd → agr st s t := fun t ht => hag t (.inl (List.mem_append.2 (.inr ht)))
    have hx : ∀ x, a41 rd x = true → rdv s x = rdv st x ∧ xv s x = xv st x ∧ ∀ n, x = .t n → n < N := fun x hx => by
      cases x with
      | t n =>
        have hn : n ∈ rd := by simpa [a41] using hx
        refine ⟨(hrs n hn).1, (hrs n hn).1, fun m hm => ?_⟩
        injection hm with hm
        subst hm
        exact hrd _ hn
      | _ => exact ⟨rfl, rfl, fun _ h => by cases h⟩
    have hargs : ∀ p ∈ args, p.1 = false ∧ e7g (rdv s p.2) = true ∧ (∀ n, p.2 = .t n → n < N) ∧ rdv s p.2 = rdv st p.2 := fun p hp => by
      have := List.all_eq_true.1 ha p hp
      simp only [Bool.and_eq_true, Bool.not_eq_true'] at this
      obtain ⟨k1, k2, k3⟩ := this
      obtain ⟨e1, _, e3⟩ := hx _ k3
      exact ⟨k1, by rw [e1]; exact k2, e3, e1⟩
    have hargs0 : ∀ p ∈ args, e7g (rdv st p.2) = true ∧ ∀ n, p.2 = .t n → n < N := fun p hp => by
      obtain ⟨_, k2, k3, k4⟩ := hargs p hp
      exact ⟨by rw [← k4]; exact k2, k3⟩
    have hg := c01 (N := N) args (N + 2) s (List.all_eq_true.2 fun p hp => by simp [(hargs p hp).1])
    have hp := b6m (N := N) args (N + 2) s (by omega) fun p hp => ⟨(hargs p hp).1, (hargs p hp).2.1, (hargs p hp).2.2.1⟩
    have hep := c5j args (N + 2) s N (by omega) fun p hp => ⟨(hargs p hp).2.1, (hargs p hp).2.2.1⟩
    have hep0 := c5j args (N + 2) st N (by omega) hargs0
    have hps := c08 (N := N) args (N + 2) s
    have hps0 := c08 (N := N) args (N + 2) st
    have hxv : ∀ (s : St) (y : X), (∀ n, y = .t n → n < N) → xv (a1b s (N + 2) args) y = xv s y := fun s y hy => by
      cases y with
      | t n => exact c08 (N := N) args (N + 2) s n (by have := hy n rfl; omega)
      | _ => rfl
    have hcv2 : xv (a1b s (N + 2) args) cv = .fn f fs cs := by rw [hxv s cv (hx cv hcv).2.2, (hx cv hcv).2.1]; exact hfn
    have hlay2 : lay.map (e3c N (a1b s (N + 2) args)) = lay.map (e3c N (a1b st (N + 2) args)) := by
      apply List.map_congr_left
      intro c hc
      have := List.all_eq_true.1 hlay c hc
      cases c with
      | p k =>
        have hk : k < args.length := by simpa using this
        have h1 := b4p (N := N) args (N + 2) s (by omega) (fun p hp => (hargs p hp).2.2.1) k args[k] (by simp [hk])
        have h2 := b4p (N := N) args (N + 2) st (by omega) (fun p hp => (hargs p hp).2.2.1) k args[k] (by simp [hk])
        simp only [e3c, h1, h2, (hargs _ (List.getElem_mem hk)).2.2.2]
      | x y =>
        simp only [Bool.and_eq_true] at this
        have hy := hx y this.1
        simp only [e3c, hxv s y hy.2.2, hxv st y hy.2.2, hy.2.1]
    have heff : c9i N (a1b s (N + 2) args) fs lay cs = c9i N (a1b st (N + 2) args) fs lay cs := by simp only [c9i, hlay2]
    simp only [Bool.and_eq_true] at hri
    have hrefL : ∀ ks : List AV, a2j rd ks = true → ∀ k ∈ ks, a3d rd k = true := by
      intro ks
      induction ks with
      | nil => intro _ k hk; simp at hk
      | cons k ks ih =>
        intro h k' hk'
        simp only [a2j, Bool.and_eq_true] at h
        rcases List.mem_cons.1 hk' with rfl | hk'
        · exact h.1
        · exact ih h.2 k' hk'
    have hrefs : ∀ p ∈ c9i N (a1b st (N + 2) args) fs lay cs, a3d rd p.2 = true := by
      intro p hp
      simp only [c9i, List.mem_append, List.mem_map] at hp
      rcases hp with ⟨k, hk, rfl⟩ | ⟨c, hc, rfl⟩ | ⟨k, hk, rfl⟩
      · exact hrefL fs hri.1 k hk
      · have := List.all_eq_true.1 hlay c hc
        cases c with
        | p k =>
          have hk : k < args.length := by simpa using this
          have h2 := b4p (N := N) args (N + 2) st (by omega) (fun p hp => (hargs p hp).2.2.1) k args[k] (by simp [hk])
          obtain ⟨u, hu⟩ := e4e (hargs0 _ (List.getElem_mem hk)).1
          simp only [e3c, h2, hu, a3d]
        | x y =>
          simp only [Bool.and_eq_true] at this
          simp only [e3c, hxv st y (hx y this.1).2.2]
          exact this.2
      · exact hrefL cs hri.2 k hk
    have hpx2 : pX N s (a1b s (N + 2) args) [] [] (c9i N (a1b s (N + 2) args) fs lay cs) = some (pre, L) := by
      rw [heff, ← hpx]
      exact d0x (rd := rd) (fun t ht => ⟨(hrs t ht).1, by rw [hps t (by have := hrd t ht; omega), hps0 t (by have := hrd t ht; omega)]; exact (hrs t ht).1, by rw [hep, hep0]; exact (hrs t ht).2⟩) _ _ _ hrefs
    have heq : ∀ c : Bool, (if c = true then s else a1b s (N + 2) args).lentS N ((L.map (·.1)).zip (posts.map (·.2))) = s.lentS N ((L.map (·.1)).zip (posts.map (·.2))) := by
      intro c
      cases c
      · refine St.ext' (fun u => ?_) (fun u => hep u)
        simp only [St.lentS, Bool.false_eq_true, if_false]
        by_cases hu : u < N
        · simp only [hu, if_true, hps u (by omega)]
        · simp only [hu, if_false]
      · rfl
    simp only [c80, e1p]
    refine ⟨f, fs, cs, s, a1b s (N + 2) args, L, pre, res, posts, _, hg, hp, hcv2, hfB, hpx2, hA, hnr, hpo, fun i av hm => (hvar i av hm).imp fun _ h => h.1, ?_, hK⟩
    rw [heq]
    cases d with
    | none => simp only [d8c, Ev.run_pure, d6z]
    | some d => simp only [d8c, a82, d6z]
  have low : ∀ s : St, ∀ t, t < N → t ∉ d.toList ++ L.map (·.1) → agr s (d6z s N ((L.map (·.1)).zip (posts.map (·.2))) d res) t := by
    intro s t ht hn
    simp only [List.mem_append, not_or] at hn
    have hlk : ((L.map (·.1)).zip (posts.map (·.2))).lookup t = none := by
      cases hl : ((L.map (·.1)).zip (posts.map (·.2))).lookup t with
      | none => rfl
      | some av => exact absurd (List.of_mem_zip (c54 hl)).1 hn.2
    have hlent : agr s (s.lentS N ((L.map (·.1)).zip (posts.map (·.2)))) t := by
      refine ⟨?_, rfl⟩
      simp only [St.lentS, ht, if_true, hlk]
      have : a66 ((L.map (·.1)).zip (posts.map (·.2))) = fun _ _ => false := by funext a b; exact hT a b
      rw [this, a46]
    cases d with
    | none => exact hlent
    | some d =>
      have htd : t ≠ d := by simpa using hn.1
      simp only [d6z]
      exact ((hlent.trans (agr.putn _ (by omega))).trans (agr.putn _ (by omega))).trans (agr.putn _ htd)
  refine ⟨fun t ht => ?_, fun t ht hn => low st t ht hn, fun s _ hag K hK => run s hag K (hK _ (fun t ht => ?_) fun t ht hn => low s t ht hn)⟩
  · rcases ht with ht | ht <;> rcases List.mem_append.1 ht with ht | ht
    · exact hd t ht
    · exact hrd t ht
    · exact hd t ht
    · exact (hL t ht).1
  · have hgt := hag t (.inr ht)
    have htN : t < N := by
      rcases List.mem_append.1 ht with ht | ht
      · exact hd t ht
      · exact (hL t ht).1
    have hlent : agr (st.lentS N ((L.map (·.1)).zip (posts.map (·.2)))) (s.lentS N ((L.map (·.1)).zip (posts.map (·.2)))) t := by
      refine ⟨?_, hgt.2⟩
      simp only [St.lentS, htN, if_true, hgt.1]
    cases d with
    | none => exact hlent
    | some d =>
      simp only [d6z]
      exact ((hlent.put _).put _).put _
def wrE (v : AV) (x : X) : List Nat := if a0l v = true then [] else slX x
def Wop (st : St) (d : Option Nat) : IOp → List Nat
  | .asg x => d.toList ++ slX x
  | .mva x => d.toList ++ slX x
  | .mvf x => d.toList ++ slX x
  | .box _ _ x => d.toList ++ slX x
  | .build _ _ parts => d.toList ++ slL (parts.map fun p => p.2.2.2)
  | .bslice _ _ _ _ _ parts => d.toList ++ slL (parts.map fun p => p.2)
  | .store _ _ x y => f5v st x ++ slX y
  | .app _ _ _ _ x y => d.toList ++ a05 st [x, y]
  | .mki _ x => d.toList ++ slX x
  | .ext x _ => d.toList ++ wrE (rdv st x) x
  | _ => d.toList
def e58 (b : Bool) (p q : Prop) : Prop := if b then p else q
abbrev DA := List (List Nat) × List (Nat × Nat)
def b1s (V : List (Nat × Nat)) (st : St) (xs : List X) : IOp → List Nat
  | .mv (.t t) => if V.any (fun p => p.1 == t) then [] else a05 st xs
  | _ => a05 st xs
def h0s (N : Nat) (aft : DA) (fps : List (List Nat × List Nat)) (K : St → Prop) (st : St) : Prop := c9d aft.1 fps = true ∧ ∀ st', (∀ t, t < N → agr st st' t) → K st'
section
variable (P : Program) (G : Nat → Option Value) (N : Nat) (aft : DA)
def e7i (ex : List Nat) (d : Option Nat) (act : IAct) (fps : List (List Nat × List Nat)) (Kn : List (List Nat × List Nat) → St → Prop) (st : St) : Prop := match act with
  | .op i => match c1v i, evS G N d i st with
    | some xs, some st' => e58 (f5g N st i) ((∀ t ∈ ex ++ (d.toList ++ a05 st xs), t < N) ∧ (∀ t ∈ Wop st d i, t < N) ∧ fr N (Wop st d i) st st' ∧ Kn (fps ++ [(ex ++ (d.toList ++ b1s aft.2 st xs i), Wop st d i)]) st')
      ((∀ t ∈ ex ++ (d.toList ++ a05 st xs), t < N) ∧ Kn (fps ++ [(ex ++ List.range N, List.range N)]) st')
    | _, _ => False
  | .call f args _ => match gvs N (N + 2) args (some st) with
    | some st1 => match pss N (N + 2) args (some st1) with
      | some st2 => ∃ res W, ACalls P G f (a7b N args.length st2) res ∧ a0k res = true ∧ (∀ t ∈ ex ++ (d.toList ++ a05 st (args.map (·.2))), t < N) ∧ (∀ t ∈ W, t < N) ∧ fr N W st (b82 (if a0w res then st1 else st2) N d res) ∧
        Kn (fps ++ [(ex ++ (d.toList ++ a05 st (args.map (·.2))), W)]) (b82 (if a0w res then st1 else st2) N d res)
      | none => False
    | none => False
  | .callx cv args lay _ => ∃ f fs cs pre L res posts rd, d1a st rd args = true ∧ a41 rd cv = true ∧ xv st cv = .fn f fs cs ∧ fnB P f = true ∧ (a2j rd fs && a2j rd cs) = true ∧ d7w st rd args.length lay = true ∧
      pX N st (a1b st (N + 2) args) [] [] (c9i N (a1b st (N + 2) args) fs lay cs) = some (pre, L) ∧ ACallsX P G f pre res posts ∧ a0k res = true ∧ posts.map (·.1) = L.map (·.2) ∧ (∀ i av, (i, av) ∈ posts → ∃ ks, av = .var ks ∧ a0j ks = true) ∧
      (∀ t ∈ ex ++ rd, t < N) ∧ (∀ t ∈ d.toList, t < N) ∧ (∀ t ∈ L.map (·.1), t < N ∧ t ∈ rd) ∧ Kn (fps ++ [(ex ++ (d.toList ++ rd), d.toList ++ L.map (·.1))]) (d6z st N ((L.map (·.1)).zip (posts.map (·.2))) d res)
  | .nilq _ _ _ => False
  | .bad _ => False
def b83 : List AO → List (List Nat × List Nat) → (St → Prop) → St → Prop
  | [], fps, K, st => h0s N aft fps K st
  | io :: rest, fps, K, st => match io.g with
    | none => e7i P G N aft [] io.dst io.act fps (fun fps st => b4q aft.2 st ∧ b83 rest fps K st) st
    | some (_, t, want) => match st.s t with
      | .lit v => if d5u want v then e7i P G N aft [t] io.dst io.act fps (fun fps st => b4q aft.2 st ∧ b83 rest fps K st) st else (∀ u ∈ t :: io.dst.toList, u < N) ∧ b4q aft.2 (a67 io.dst st) ∧ b83 rest (fps ++ [([t], io.dst.toList)]) K (a67 io.dst st)
      | _ => False
end
section
variable {P : Program} {G : Nat → Option Value} {N : Nat} {aft : DA}
theorem e1q {ex : List Nat} {d : Option Nat} {act : IAct} {fps : List (List Nat × List Nat)} {Kn : List (List Nat × List Nat) → St → Prop} {st : St} (hI : b4q aft.2 st) (h : e7i P G N aft ex d act fps Kn st) : ∃ st' rd wr, Loc P G N aft.2 (c80 P G N d act) st st' rd wr ∧ (∀ t ∈ ex, t < N) ∧ Kn (fps ++ [(ex ++ rd, wr)]) st' := by
  cases act with
  | op i =>
    simp only [e7i] at h
    split at h
    · rename_i xs st' ho he
      unfold e58 at h
      split at h
      · rename_i hb
        obtain ⟨h1, h2, h4, h5⟩ := h
        have gen : b1s aft.2 st xs i = a05 st xs → ∃ st' rd wr, Loc P G N aft.2 (c80 P G N d (.op i)) st st' rd wr ∧ (∀ t ∈ ex, t < N) ∧ Kn (fps ++ [(ex ++ rd, wr)]) st' := fun e => ⟨st', _, _, g2w (V := aft.2) ho he (fun t ht => h1 t (List.mem_append.2 (.inr ht))) h2 (e95 hb) h4, fun t ht => h1 t (List.mem_append.2 (.inl ht)), by rw [e] at h5; exact h5⟩
        by_cases hm : ∃ t, i = .mv (.t t) ∧ (aft.2.any fun p => p.1 == t) = true
        · obtain ⟨t, rfl, ht⟩ := hm
          have e : b1s aft.2 st xs (.mv (.t t)) = [] := by simp only [b1s, ht, if_true]
          rw [e, List.append_nil] at h5
          obtain ⟨p, hp, hpt⟩ := List.any_eq_true.1 ht
          have hpt : p.1 = t := by simpa using hpt
          subst hpt
          cases d with
          | none =>
            exfalso
            have := (hI p hp).1
            cases hv : st.s p.1 <;> simp only [hv, d7i, reduceCtorEq] at this
            simp [evS, a1c, mvE, Ev.run_bind, a0r, rdv, hv, c7z, Ev.run, setD, Option.bind] at he
          | some d =>
            obtain ⟨q1, q2⟩ := f0a (P := P) (G := G) (N := N) hI hp (h2 d (by simp [Wop])) he
            exact ⟨st', _, _, q1, fun t ht => h1 t (List.mem_append.2 (.inl ht)), h5⟩
        · refine gen ?_
          unfold b1s
          split
          · rename_i t
            rw [if_neg]
            intro hc
            exact hm ⟨t, rfl, hc⟩
          · rfl
      · obtain ⟨h1, h5⟩ := h
        exact ⟨st', _, _, e64 ho he (fun t ht => h1 t (List.mem_append.2 (.inr ht))), fun t ht => h1 t (List.mem_append.2 (.inl ht)), h5⟩
    · exact h.elim
  | call f args tys =>
    simp only [e7i] at h
    split at h
    · rename_i st1 hg
      split at h
      · rename_i st2 hp
        obtain ⟨res, W, h1, h2, h3, h4, h5, h6⟩ := h
        exact ⟨_, _, _, e7v hg hp h1 h2 (fun t ht => h3 t (List.mem_append.2 (.inr ht))) h4 h5, fun t ht => h3 t (List.mem_append.2 (.inl ht)), h6⟩
      · exact h.elim
    · exact h.elim
  | callx cv args lay tys =>
    simp only [e7i] at h
    obtain ⟨f, fs, cs, pre, L, res, posts, rd, h1, h2, h3, h4, h5, h6, h7, h8, h9, h10, h11, h12, h13, h14, h15⟩ := h
    exact ⟨_, _, _, e5t h1 h2 h3 h4 h5 h6 h7 h8 h9 h10 h11 (fun t ht => h12 t (List.mem_append.2 (.inr ht))) h13 h14, fun t ht => h12 t (List.mem_append.2 (.inl ht)), h15⟩
  | nilq T x yT => exact h.elim
  | bad o => exact h.elim
theorem a93 : ∀ (ios : List AO) (fps : List (List Nat × List Nat)) (K : St → Prop) (st : St), b4q aft.2 st → b83 P G N aft ios fps K st → dCh P G N aft.2 ios fps (fun stn fps => c9d aft.1 fps = true ∧ ∀ st', (∀ t, t < N → agr stn st' t) → K st') st
  | [], fps, K, st, hI, h => h
  | io :: rest, fps, K, st, hI, h => by
    simp only [b83] at h
    simp only [dCh]
    cases hg : io.g with
    | none =>
      simp only [hg] at h
      obtain ⟨st', rd, wr, hL, _, hI', hK⟩ := e1q hI h
      refine ⟨st', rd, wr, ?_, hI', by simpa using a93 rest _ K st' hI' hK⟩
      have : b60 P G N io = c80 P G N io.dst io.act := by funext K st; simp only [b60, hg]
      rw [this]; exact hL
    | some g =>
      obtain ⟨j, t, want⟩ := g
      simp only [hg] at h
      split at h
      · rename_i v hv
        split at h
        · rename_i hw
          obtain ⟨st', rd, wr, hL, hex, hI', hK⟩ := e1q hI h
          refine ⟨st', t :: rd, wr, ?_, hI', by simpa using a93 rest _ K st' hI' hK⟩
          exact {
            lt := fun u hu => by
              rcases hu with hu | hu
              · rcases List.mem_cons.1 hu with rfl | hu
                · exact hex _ (by simp)
                · exact hL.lt u (.inl hu)
              · exact hL.lt u (.inr hu)
            frame := hL.frame
            loc := fun st2 hV2 hst K2 hK2 => by
              have h1 : st2.s t = .lit v := by rw [(hst t (.inl (by simp))).1, hv]
              simp only [b60, hg, h1, hw, if_true]
              exact hL.loc st2 hV2 (fun u hu => hst u (hu.imp (List.mem_cons_of_mem _) id)) K2 hK2 }
        · rename_i hw
          obtain ⟨hN, hI', hK⟩ := h
          refine ⟨_, _, _, ?_, hI', a93 rest _ K _ hI' hK⟩
          exact {
            lt := fun u hu => hN u (by rcases hu with hu | hu <;> simp at hu ⊢ <;> simp [hu])
            frame := fun u hu hn => by
              cases hd : io.dst with
              | none => simp only [a67]; exact agr.refl _ _
              | some d =>
                simp only [a67]
                refine agr.putn _ ?_
                rintro rfl
                exact hn (by simp [hd])
            loc := fun st2 hV2 hst K2 hK2 => by
              have h1 : st2.s t = .lit v := by rw [(hst t (.inl (by simp))).1, hv]
              simp only [b60, hg, h1, hw, Bool.false_eq_true, if_false]
              cases hd : io.dst with
              | none =>
                rw [hd] at hK2
                simp only [a67] at hK2 ⊢
                exact hK2 _ (fun u hu => by simp at hu) (fun u _ _ => agr.refl _ _)
              | some d =>
                rw [hd] at hK2 hst
                simp only [a67] at hK2 ⊢
                refine hK2 _ (fun u hu => ?_) (fun u _ hn => agr.putn _ (by rintro rfl; exact hn (by simp)))
                have : u = d := by simpa using hu
                subst this
                exact (hst u (.inr (by simp))).put _ }
      · exact h.elim
end
end Go.Ideal
end
